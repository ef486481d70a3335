/- The contracts of the functions that the law reaches, part 4: what each returns and what becomes of memory. -/
import Derived.ProofKit
import Derived.OpenShut
import Derived.Lib.SmallJoins
import Derived.Laws.IdiomArrays
import Derived.ChangeArms
import Derived.WideShapes
import Derived.RegionTactic
import Derived.BigRegion
import Derived.StillTailTactics
import Derived.Test.YthkgjodidkpaeaaM1
import Derived.Test.YthkgjodidkpaeaaM2
import Derived.Test.YthkgjodidkpaeaaM3
set_option linter.unusedSimpArgs false
set_option linter.unusedVariables false
namespace Go.Proofs.Ythkgjodidkpaeaa
open Go.RowKit

theorem bound_ten {j : Nat} (h : j ≤ 18) : B34 * 10 ^ (18 - j) = 10 ^ (52 - j) := by unfold B34; rw [← Nat.pow_add]; congr 1; omega
theorem slim_add {X st : Nat} (h : X < 10 ^ 52) (hs : st ≤ 10 ^ 18) : Slim (X + st) := Slim.of_lt (k := 53) (by
  have : (10 : Nat) ^ 52 + 10 ^ 18 < 10 ^ 53 := by decide
  omega) (by decide)
set_option maxRecDepth 100000 in
set_option maxHeartbeats 4000000 in
theorem rup_any (b : Bool) (c s : Nat) (down : Bool) (hc : c < B34) (hs : s ≤ 18) (hd : down = true → c ≠ 0) (w : World) :
    Calls Try.prog 68 #[.agg #[.bool b, .int .u64 (wd (c) 1), .int .u64 (wd (c) 0), .int .i64 s], .bool down] w fun e w' => e = .returned (.tuple #[.agg #[.bool false, .int .u64 (wd ((NbC (nb c s down))) 1), .int .u64 (wd ((NbC (nb c s down))) 0), .int .i64 (NbS (nb c s down))], .int .i64 (NbE (nb c s down))]) ∧ Below w.heap.size w w' := by
  have hU : unit c s < 10 ^ 52 := unit_lt hc
  have hx0 : down = true → 0 < unit c s := fun h => Nat.mul_pos (Nat.pos_of_ne_zero (hd h)) (Nat.pow_pos (by decide))
  have HUN := Lib.hid (fun W => units_any b c s (Nat.lt_trans hc B34_lt) hs W)
  unfold RetUnits at HUN
  have H18 : Hid (∀ W, Calls Try.prog 61 #[.int .i64 18] W (RetDg (10 ^ 18) W)) := Lib.hid (fun W => one_any 18 (by decide) W)
  have H52 : Hid (∀ W, Calls Try.prog 61 #[.int .i64 52] W (RetDg (10 ^ 52) W)) := Lib.hid (fun W => one_any 52 (by decide) W)
  obtain ⟨r, hr⟩ : ∃ r, r = nb c s down := ⟨_, rfl⟩
  have ER := Far.mk hr
  unfold nb at hr
  have HR := Far.mk hr
  obtain ⟨X, hX⟩ : ∃ X, X = unit c s := ⟨_, rfl⟩
  rw [← hX] at hU hx0 HUN HR
  rw [← ER.out]
  obtain ⟨C, hC⟩ : ∃ C, C = NbC r := ⟨_, rfl⟩
  obtain ⟨S, hS⟩ : ∃ S, S = NbS r := ⟨_, rfl⟩
  obtain ⟨E, hE⟩ : ∃ E, E = NbE r := ⟨_, rfl⟩
  rw [← hC, ← hS, ← hE]
  have EC := Far.mk hC
  have ES := Far.mk hS
  have EE := Far.mk hE
  have HUU := Far.mk hU
  have SX := Lib.hid (Slim.of_lt (k := 52) hU (by decide))
  have HX0 := Lib.hid hx0
  have H19 := Far.mk (K19_eq c)
  generalize wd c 0 = x0 at *
  generalize wd c 1 = x1 at *
  clear hr hX hC hS hE hU hx0 hc hd ER
  go_enter Try.func68, Try.ntmps68
  go_wp2_with fail
  refine (HUN.out _).mono ?_
  rintro _ w1 ⟨v1, rfl, d1, hb1⟩
  have hb1s := hb1.size
  (try simp only [World.size_alloc, World.size_setCell, World.size_drew, World.heap_drewN] at hb1s)
  have Hd1 := Lib.hid d1
  have b1 : Bk w1 (w.heap.size + 1) 26 [.bool false, .int .u64 0, .int .u64 0, .int .i64 0] := by (repeat (first | (with_reducible assumption) | ((with_reducible refine Bk.new_ ?_); (first | rfl | (simp only [World.size_alloc, World.size_setCell, World.size_drew, World.heap_drewN]; done))) | (with_reducible refine Bk.alloc ?_ _) | (with_reducible refine Bk.drew ?_) | (with_reducible refine Bk.drewN ?_ _) | ((with_reducible refine Bk.far ?_ ?_ _); rotate_left; focus (simp only []; omega)) | ((with_reducible refine Bk.below ?_ (by with_reducible assumption) ?_); rotate_left; focus (go_size; done))))
  have HB1 := Lib.hid b1
  have hw1 : Below w.heap.size w w1 := by (repeat' (first | (with_reducible exact Below.refl _ _) | (with_reducible assumption) | (with_reducible refine Below.drew ?_) | (with_reducible refine below_drewN ?_ _) | ((with_reducible refine Below.alloc ?_ ?_ _); rotate_left; focus (go_size; done)) | ((with_reducible refine Below.setCell ?_ ?_ _); rotate_left; focus (go_size; done)) | ((with_reducible refine Below.trans ?_ (Below.mono (by with_reducible assumption) ?_)); rotate_left; focus (go_size; done))))
  clear d1 b1 hb1
  go_wp2_with fail
  go_loopg [8] 19 (fun kk sv wr => kk ≤ 19 ∧ sv = .int .i64 ((kk : Int) - 1) ∧ Far (r = upK X down kk) ∧ Far (kk = 19 ∨ B34 * 10 ^ (18 - kk) < X ∨ down = false) ∧ Bk wr (w.heap.size + 1) 26 [.bool false, .int .u64 0, .int .u64 0, .int .i64 0] ∧ Below w1.heap.size w1 wr)
  case atStart => exact ⟨Nat.le_refl _, rfl, Far.mk (by rw [HR.out, H19.out]), Far.mk (.inl rfl), HB1.out, Below.refl _ _⟩
  case round =>
    obtain ⟨hk19, rfl, hrr, hroom, b0, hbel⟩ := hrel
    have HB0 := Lib.hid b0
    have hbs := hbel.size
    have l0 := b0.lt
    have hbw : Below w.heap.size w wr := hw1.trans (hbel.mono (by omega))
    by_cases hz : gk = 0
    · subst hz
      have hm : ¬ (0 : Int) ≤ ((0 : Nat) : Int) - 1 := by omega
      have b0_0 := b0.cell 0 rfl
      have b0_1 := b0.cell 1 rfl
      have b0_2 := b0.cell 2 rfl
      have b0_3 := b0.cell 3 rfl
      have b0_4 := b0.frozen 0
      have b0_5 := b0.frozen 1
      have b0_6 := b0.frozen 2
      have b0_7 := b0.frozen 3
      clear b0
      go_wp2_with fail
      refine bodyPost_ret (by simp [results, Try.results68, go_sem, *]; try rfl) rfl ?_
      have e := hrr.out
      exact ⟨by rw [EC.out, ES.out, EE.out, e, show upK X down 0 = (0, false) from rfl, (nb_no 0).1, (nb_no 0).2.1, (nb_no 0).2.2, wd_zero, wd_zero]; rfl, by (repeat' (first | (with_reducible exact Below.refl _ _) | (with_reducible assumption) | (with_reducible refine Below.drew ?_) | (with_reducible refine below_drewN ?_ _) | ((with_reducible refine Below.alloc ?_ ?_ _); rotate_left; focus (go_size; done)) | ((with_reducible refine Below.setCell ?_ ?_ _); rotate_left; focus (go_size; done)) | ((with_reducible refine Below.trans ?_ (Below.mono (by with_reducible assumption) ?_)); rotate_left; focus (go_size; done))))⟩
    · obtain ⟨j, rfl⟩ : ∃ j, gk = j + 1 := ⟨gk - 1, by omega⟩
      have hx : ((j + 1 : Nat) : Int) - 1 = (j : Int) := by omega
      rw [hx]
      have j0 : (0 : Int) ≤ (j : Int) := by omega
      have j18 : (j : Int) ≤ 18 := by omega
      have jn : j ≤ 18 := by omega
      have gw : IntKind.i64.wrap (18 - (j : Int)) = 18 - (j : Int) := IntWalk.i64_in _ (by omega)
      have gv : IntKind.i64.wrap (52 - (j : Int)) = 52 - (j : Int) := IntWalk.i64_in _ (by omega)
      have HO1 : Hid (∀ W, Calls Try.prog 61 #[.int .i64 (52 - (j : Int))] W (RetDg (10 ^ (52 - j)) W)) := Lib.hid (fun W => by
        rw [show (52 : Int) - (j : Int) = ((52 - j : Nat) : Int) by omega]
        exact one_any (52 - j) (by omega) W)
      have HO2 : Hid (∀ W, Calls Try.prog 61 #[.int .i64 (18 - (j : Int))] W (RetDg (10 ^ (18 - j)) W)) := Lib.hid (fun W => by
        rw [show (18 : Int) - (j : Int) = ((18 - j : Nat) : Int) by omega]
        exact one_any (18 - j) (by omega) W)
      have S1 := Lib.hid (ten_slim (k := 52 - j) (by omega))
      have S2 := Lib.hid (ten_slim (k := 18 - j) (by omega))
      obtain ⟨st, hst⟩ : ∃ st, st = 10 ^ (18 - j) := ⟨_, rfl⟩
      obtain ⟨Bd, hB⟩ : ∃ Bd, Bd = 10 ^ (52 - j) := ⟨_, rfl⟩
      rw [← hst] at HO2 S2
      rw [← hB] at HO1 S1
      have HST := Far.mk hst
      rw [← bound_ten jn] at hB
      have HBD := Far.mk hB
      have hstl : st ≤ 10 ^ 18 := by rw [hst]; exact step_le j
      have S3 := Lib.hid (slim_add HUU.out hstl)
      clear hst hB hz hstl hx
      go_wp2_with fail
      refine (HO1.out _).mono ?_
      rintro _ w2 ⟨v2, rfl, d2, hb2⟩; have hb2s := hb2.size; (try simp only [World.size_alloc, World.size_setCell, World.size_drew, World.heap_drewN] at hb2s); obtain ⟨hb2c, hb2f⟩ := bcell hb2; (try have : w.heap.size < w2.heap.size := by omega); (try have : w.heap.size + 1 < w2.heap.size := by omega); (try have : w.heap.size + 1 + 1 < w2.heap.size := by omega); (try have : w.heap.size + 1 + 1 + 1 < w2.heap.size := by omega); have Hd2 := Lib.hid d2; clear d2
      go_wp2_with fail
      refine (rcmp_bel X Bd _ _ _ ((Hd1.out.below hbel).below hb2) Hd2.out SX.out.tiny.small S1.out.tiny.small).mono ?_
      rintro _ w3 ⟨rfl, hb3⟩; have hb3s := hb3.size; (try simp only [World.size_alloc, World.size_setCell, World.size_drew, World.heap_drewN] at hb3s); obtain ⟨hb3c, hb3f⟩ := bcell hb3; (try have : w.heap.size < w3.heap.size := by omega); (try have : w.heap.size + 1 < w3.heap.size := by omega); (try have : w.heap.size + 1 + 1 < w3.heap.size := by omega); (try have : w.heap.size + 1 + 1 + 1 < w3.heap.size := by omega)
      go_wp2_with fail
      refine (HO2.out _).mono ?_
      rintro _ w4 ⟨v4, rfl, d4, hb4⟩; have hb4s := hb4.size; (try simp only [World.size_alloc, World.size_setCell, World.size_drew, World.heap_drewN] at hb4s); obtain ⟨hb4c, hb4f⟩ := bcell hb4; (try have : w.heap.size < w4.heap.size := by omega); (try have : w.heap.size + 1 < w4.heap.size := by omega); (try have : w.heap.size + 1 + 1 < w4.heap.size := by omega); (try have : w.heap.size + 1 + 1 + 1 < w4.heap.size := by omega); have Hd4 := Lib.hid d4; clear d4
      have nw : Below w1.heap.size w1 w4 := by (repeat' (first | (with_reducible exact Below.refl _ _) | (with_reducible assumption) | (with_reducible refine Below.drew ?_) | (with_reducible refine below_drewN ?_ _) | ((with_reducible refine Below.alloc ?_ ?_ _); rotate_left; focus (go_size; done)) | ((with_reducible refine Below.setCell ?_ ?_ _); rotate_left; focus (go_size; done)) | ((with_reducible refine Below.trans ?_ (Below.mono (by with_reducible assumption) ?_)); rotate_left; focus (go_size; done))))
      have nww : Below w.heap.size w w4 := by (repeat' (first | (with_reducible exact Below.refl _ _) | (with_reducible assumption) | (with_reducible refine Below.drew ?_) | (with_reducible refine below_drewN ?_ _) | ((with_reducible refine Below.alloc ?_ ?_ _); rotate_left; focus (go_size; done)) | ((with_reducible refine Below.setCell ?_ ?_ _); rotate_left; focus (go_size; done)) | ((with_reducible refine Below.trans ?_ (Below.mono (by with_reducible assumption) ?_)); rotate_left; focus (go_size; done))))
      have n4 : Bk w4 (w.heap.size + 1) 26 [.bool false, .int .u64 0, .int .u64 0, .int .i64 0] := ((HB0.out.below hb2 (by omega)).below hb3 (by omega)).below hb4 (by omega)
      have n4l := n4.lt
      have N4 := Lib.hid n4
      have dx := Hd1.out.below nw
      have DX := Lib.hid dx
      clear dx n4 b0 hb2 hb2c hb2f hb3 hb3c hb3f hb4 hb4c hb4f hb2s hb3s hb4s hbel hbs hbw
      cases down
      · have HRR : Far (r = upK X false (j + 1)) := hrr
        by_cases hlt : X < Bd
        · have hcc : cmpN X Bd < 0 := by unfold cmpN; rw [if_neg (by omega), if_pos hlt]; decide
          generalize cmpN X Bd = cc at *
          have HLT := Far.mk hlt
          by_cases hj : j = 0
          · subst hj
            by_cases hy : X + st < 10 ^ 52
            · have hyc : cmpN (X + st) (10 ^ 52) < 0 := by unfold cmpN; rw [if_neg (by omega), if_pos hy]; decide
              have he := HRR.out
              rw [upK_up (by rw [← HBD.out]; exact HLT.out) (fun _ => by have h1 := hy; rw [HST.out] at h1; exact Nat.lt_of_lt_of_eq h1 (bound_ten (j := 0) (by decide)).symm), ← HST.out] at he
              have HE := Far.mk he
              have HY := Lib.hid (fun u v W hu hv => rcmp_bel (X + st) (10 ^ 52) u v W hu hv S3.out.tiny.small (ten_slim (k := 52) (by decide)).tiny.small)
              clear hlt he hrr hroom HRR hy
              generalize cmpN (X + st) (10 ^ 52) = c2 at *
              go_wp2_with fail
              refine (plus_any X st _ _ _ DX.out Hd4.out SX.out.tiny.small S2.out.tiny.small).mono ?_
              rintro _ w5 ⟨v5, rfl, d5, hb5⟩; have hb5s := hb5.size; (try simp only [World.size_alloc, World.size_setCell, World.size_drew, World.heap_drewN] at hb5s); obtain ⟨hb5c, hb5f⟩ := bcell hb5; (try have : w.heap.size < w5.heap.size := by omega); (try have : w.heap.size + 1 < w5.heap.size := by omega); (try have : w.heap.size + 1 + 1 < w5.heap.size := by omega); (try have : w.heap.size + 1 + 1 + 1 < w5.heap.size := by omega); have Hd5 := Lib.hid d5; clear d5
              go_wp2_with fail
              refine (H52.out _).mono ?_
              rintro _ w6 ⟨v6, rfl, d6, hb6⟩; have hb6s := hb6.size; (try simp only [World.size_alloc, World.size_setCell, World.size_drew, World.heap_drewN] at hb6s); obtain ⟨hb6c, hb6f⟩ := bcell hb6; (try have : w.heap.size < w6.heap.size := by omega); (try have : w.heap.size + 1 < w6.heap.size := by omega); (try have : w.heap.size + 1 + 1 < w6.heap.size := by omega); (try have : w.heap.size + 1 + 1 + 1 < w6.heap.size := by omega); have Hd6 := Lib.hid d6; clear d6
              go_wp2_with fail
              refine (HY.out _ _ _ (Hd5.out.below hb6) Hd6.out).mono ?_
              rintro _ w7 ⟨rfl, hb7⟩; have hb7s := hb7.size; (try simp only [World.size_alloc, World.size_setCell, World.size_drew, World.heap_drewN] at hb7s); obtain ⟨hb7c, hb7f⟩ := bcell hb7; (try have : w.heap.size < w7.heap.size := by omega); (try have : w.heap.size + 1 < w7.heap.size := by omega); (try have : w.heap.size + 1 + 1 < w7.heap.size := by omega); (try have : w.heap.size + 1 + 1 + 1 < w7.heap.size := by omega)
              have nw7 : Below w4.heap.size w4 w7 := by (repeat' (first | (with_reducible exact Below.refl _ _) | (with_reducible assumption) | (with_reducible refine Below.drew ?_) | (with_reducible refine below_drewN ?_ _) | ((with_reducible refine Below.alloc ?_ ?_ _); rotate_left; focus (go_size; done)) | ((with_reducible refine Below.setCell ?_ ?_ _); rotate_left; focus (go_size; done)) | ((with_reducible refine Below.trans ?_ (Below.mono (by with_reducible assumption) ?_)); rotate_left; focus (go_size; done))))
              clear hb5c hb5f hb6c hb6f hb7c hb7f
              go_wp2_with fail
              refine (plus_any X st _ _ _ (DX.out.below nw7) (Hd4.out.below nw7) SX.out.tiny.small S2.out.tiny.small).mono ?_
              rintro _ w8 ⟨v8, rfl, d8, hb8⟩; have hb8s := hb8.size; (try simp only [World.size_alloc, World.size_setCell, World.size_drew, World.heap_drewN] at hb8s); obtain ⟨hb8c, hb8f⟩ := bcell hb8; (try have : w.heap.size < w8.heap.size := by omega); (try have : w.heap.size + 1 < w8.heap.size := by omega); (try have : w.heap.size + 1 + 1 < w8.heap.size := by omega); (try have : w.heap.size + 1 + 1 + 1 < w8.heap.size := by omega); have Hd8 := Lib.hid d8; clear d8
              have nw8 : Below w4.heap.size w4 w8 := by (repeat' (first | (with_reducible exact Below.refl _ _) | (with_reducible assumption) | (with_reducible refine Below.drew ?_) | (with_reducible refine below_drewN ?_ _) | ((with_reducible refine Below.alloc ?_ ?_ _); rotate_left; focus (go_size; done)) | ((with_reducible refine Below.setCell ?_ ?_ _); rotate_left; focus (go_size; done)) | ((with_reducible refine Below.trans ?_ (Below.mono (by with_reducible assumption) ?_)); rotate_left; focus (go_size; done))))
              clear hb8c hb8f hb5 hb6 hb7
              go_wp2_with fail
              refine (H18.out _).mono ?_
              rintro _ w9 ⟨v9, rfl, d9, hb9⟩; have hb9s := hb9.size; (try simp only [World.size_alloc, World.size_setCell, World.size_drew, World.heap_drewN] at hb9s); obtain ⟨hb9c, hb9f⟩ := bcell hb9; (try have : w.heap.size < w9.heap.size := by omega); (try have : w.heap.size + 1 < w9.heap.size := by omega); (try have : w.heap.size + 1 + 1 < w9.heap.size := by omega); (try have : w.heap.size + 1 + 1 + 1 < w9.heap.size := by omega); have Hd9 := Lib.hid d9; clear d9
              clear hb9c hb9f
              go_wp2_with fail
              refine (rfit_any false (X + st) (10 ^ 18) _ _ _ (Hd8.out.below hb9) Hd9.out S3.out (ten_slim (k := 18) (by decide)) (Nat.pow_pos (by decide))).mono ?_
              rintro _ w10 ⟨rfl, hb10⟩; have hb10s := hb10.size; (try simp only [World.size_alloc, World.size_setCell, World.size_drew, World.heap_drewN] at hb10s); obtain ⟨hb10c, hb10f⟩ := bcell hb10; (try have : w.heap.size < w10.heap.size := by omega); (try have : w.heap.size + 1 < w10.heap.size := by omega); (try have : w.heap.size + 1 + 1 < w10.heap.size := by omega); (try have : w.heap.size + 1 + 1 + 1 < w10.heap.size := by omega)
              have n10 : Bk w10 (w.heap.size + 1) 26 [.bool false, .int .u64 0, .int .u64 0, .int .i64 0] := ((N4.out.below nw8 n4l).below hb9 (N4.out.below nw8 n4l).lt).below hb10 ((N4.out.below nw8 n4l).below hb9 (N4.out.below nw8 n4l).lt).lt
              have n10_0 := n10.cell 0 rfl
              have n10_1 := n10.cell 1 rfl
              have n10_2 := n10.cell 2 rfl
              have n10_3 := n10.cell 3 rfl
              have n10_4 := n10.frozen 0
              have n10_5 := n10.frozen 1
              have n10_6 := n10.frozen 2
              have n10_7 := n10.frozen 3
              clear hb10c hb10f
              go_wp2_with fail
              refine bodyPost_ret (by simp [results, Try.results68, go_sem, *]; try rfl) rfl ?_
              exact ⟨by rw [EC.out, ES.out, EE.out, HE.out, (nb_yes _).1, (nb_yes _).2.1, (nb_yes _).2.2, show ∀ x, sg false x = false from fun x => rfl], by (repeat' (first | (with_reducible exact Below.refl _ _) | (with_reducible assumption) | (with_reducible refine Below.drew ?_) | (with_reducible refine below_drewN ?_ _) | ((with_reducible refine Below.alloc ?_ ?_ _); rotate_left; focus (go_size; done)) | ((with_reducible refine Below.setCell ?_ ?_ _); rotate_left; focus (go_size; done)) | ((with_reducible refine Below.trans ?_ (Below.mono (by with_reducible assumption) ?_)); rotate_left; focus (go_size; done))))⟩
            · have hyc : ¬ cmpN (X + st) (10 ^ 52) < 0 := by unfold cmpN; split <;> (try split) <;> omega
              have he := HRR.out
              rw [upK_up' (by rintro ⟨_, h⟩; refine hy ?_; rw [HST.out]; exact Nat.lt_of_lt_of_eq (h rfl) (bound_ten (j := 0) (by decide)))] at he
              have HE := Far.mk he
              have HY := Lib.hid (fun u v W hu hv => rcmp_bel (X + st) (10 ^ 52) u v W hu hv S3.out.tiny.small (ten_slim (k := 52) (by decide)).tiny.small)
              clear hlt he hrr hroom HRR hy
              generalize cmpN (X + st) (10 ^ 52) = c2 at *
              go_wp2_with fail
              refine (plus_any X st _ _ _ DX.out Hd4.out SX.out.tiny.small S2.out.tiny.small).mono ?_
              rintro _ w5 ⟨v5, rfl, d5, hb5⟩; have hb5s := hb5.size; (try simp only [World.size_alloc, World.size_setCell, World.size_drew, World.heap_drewN] at hb5s); obtain ⟨hb5c, hb5f⟩ := bcell hb5; (try have : w.heap.size < w5.heap.size := by omega); (try have : w.heap.size + 1 < w5.heap.size := by omega); (try have : w.heap.size + 1 + 1 < w5.heap.size := by omega); (try have : w.heap.size + 1 + 1 + 1 < w5.heap.size := by omega); have Hd5 := Lib.hid d5; clear d5
              go_wp2_with fail
              refine (H52.out _).mono ?_
              rintro _ w6 ⟨v6, rfl, d6, hb6⟩; have hb6s := hb6.size; (try simp only [World.size_alloc, World.size_setCell, World.size_drew, World.heap_drewN] at hb6s); obtain ⟨hb6c, hb6f⟩ := bcell hb6; (try have : w.heap.size < w6.heap.size := by omega); (try have : w.heap.size + 1 < w6.heap.size := by omega); (try have : w.heap.size + 1 + 1 < w6.heap.size := by omega); (try have : w.heap.size + 1 + 1 + 1 < w6.heap.size := by omega); have Hd6 := Lib.hid d6; clear d6
              go_wp2_with fail
              refine (HY.out _ _ _ (Hd5.out.below hb6) Hd6.out).mono ?_
              rintro _ w7 ⟨rfl, hb7⟩; have hb7s := hb7.size; (try simp only [World.size_alloc, World.size_setCell, World.size_drew, World.heap_drewN] at hb7s); obtain ⟨hb7c, hb7f⟩ := bcell hb7; (try have : w.heap.size < w7.heap.size := by omega); (try have : w.heap.size + 1 < w7.heap.size := by omega); (try have : w.heap.size + 1 + 1 < w7.heap.size := by omega); (try have : w.heap.size + 1 + 1 + 1 < w7.heap.size := by omega)
              have nw7 : Below w4.heap.size w4 w7 := by (repeat' (first | (with_reducible exact Below.refl _ _) | (with_reducible assumption) | (with_reducible refine Below.drew ?_) | (with_reducible refine below_drewN ?_ _) | ((with_reducible refine Below.alloc ?_ ?_ _); rotate_left; focus (go_size; done)) | ((with_reducible refine Below.setCell ?_ ?_ _); rotate_left; focus (go_size; done)) | ((with_reducible refine Below.trans ?_ (Below.mono (by with_reducible assumption) ?_)); rotate_left; focus (go_size; done))))
              have n7 : Bk w7 (w.heap.size + 1) 26 [.bool false, .int .u64 0, .int .u64 0, .int .i64 0] := N4.out.below nw7 n4l
              have nw1 : Below w1.heap.size w1 w7 := nw.trans (nw7.mono (nw.size))
              clear hb5c hb5f hb6c hb6f hb7c hb7f hb5 hb6 hb7
              go_wp2_with fail
              go_roundg 0
              case measure => omega
              case rel => exact ⟨by omega, rfl, HE, Far.mk (by simp), n7, nw1⟩
          · have hjp : (0 : Int) < (j : Int) := by omega
            have he := HRR.out
            rw [upK_up (by rw [← HBD.out]; exact HLT.out) (fun h => absurd h hj), ← HST.out] at he
            have HE := Far.mk he
            clear hlt hj he hrr hroom HRR
            go_wp2_with fail
            refine (plus_any X st _ _ _ DX.out Hd4.out SX.out.tiny.small S2.out.tiny.small).mono ?_
            rintro _ w8 ⟨v8, rfl, d8, hb8⟩; have hb8s := hb8.size; (try simp only [World.size_alloc, World.size_setCell, World.size_drew, World.heap_drewN] at hb8s); obtain ⟨hb8c, hb8f⟩ := bcell hb8; (try have : w.heap.size < w8.heap.size := by omega); (try have : w.heap.size + 1 < w8.heap.size := by omega); (try have : w.heap.size + 1 + 1 < w8.heap.size := by omega); (try have : w.heap.size + 1 + 1 + 1 < w8.heap.size := by omega); have Hd8 := Lib.hid d8; clear d8
            have nw8 : Below w4.heap.size w4 w8 := by (repeat' (first | (with_reducible exact Below.refl _ _) | (with_reducible assumption) | (with_reducible refine Below.drew ?_) | (with_reducible refine below_drewN ?_ _) | ((with_reducible refine Below.alloc ?_ ?_ _); rotate_left; focus (go_size; done)) | ((with_reducible refine Below.setCell ?_ ?_ _); rotate_left; focus (go_size; done)) | ((with_reducible refine Below.trans ?_ (Below.mono (by with_reducible assumption) ?_)); rotate_left; focus (go_size; done))))
            clear hb8c hb8f
            go_wp2_with fail
            refine (H18.out _).mono ?_
            rintro _ w9 ⟨v9, rfl, d9, hb9⟩; have hb9s := hb9.size; (try simp only [World.size_alloc, World.size_setCell, World.size_drew, World.heap_drewN] at hb9s); obtain ⟨hb9c, hb9f⟩ := bcell hb9; (try have : w.heap.size < w9.heap.size := by omega); (try have : w.heap.size + 1 < w9.heap.size := by omega); (try have : w.heap.size + 1 + 1 < w9.heap.size := by omega); (try have : w.heap.size + 1 + 1 + 1 < w9.heap.size := by omega); have Hd9 := Lib.hid d9; clear d9
            clear hb9c hb9f
            go_wp2_with fail
            refine (rfit_any false (X + st) (10 ^ 18) _ _ _ (Hd8.out.below hb9) Hd9.out S3.out (ten_slim (k := 18) (by decide)) (Nat.pow_pos (by decide))).mono ?_
            rintro _ w10 ⟨rfl, hb10⟩; have hb10s := hb10.size; (try simp only [World.size_alloc, World.size_setCell, World.size_drew, World.heap_drewN] at hb10s); obtain ⟨hb10c, hb10f⟩ := bcell hb10; (try have : w.heap.size < w10.heap.size := by omega); (try have : w.heap.size + 1 < w10.heap.size := by omega); (try have : w.heap.size + 1 + 1 < w10.heap.size := by omega); (try have : w.heap.size + 1 + 1 + 1 < w10.heap.size := by omega)
            have n10 : Bk w10 (w.heap.size + 1) 26 [.bool false, .int .u64 0, .int .u64 0, .int .i64 0] := ((N4.out.below nw8 n4l).below hb9 (N4.out.below nw8 n4l).lt).below hb10 ((N4.out.below nw8 n4l).below hb9 (N4.out.below nw8 n4l).lt).lt
            have n10_0 := n10.cell 0 rfl
            have n10_1 := n10.cell 1 rfl
            have n10_2 := n10.cell 2 rfl
            have n10_3 := n10.cell 3 rfl
            have n10_4 := n10.frozen 0
            have n10_5 := n10.frozen 1
            have n10_6 := n10.frozen 2
            have n10_7 := n10.frozen 3
            clear hb10c hb10f
            go_wp2_with fail
            refine bodyPost_ret (by simp [results, Try.results68, go_sem, *]; try rfl) rfl ?_
            exact ⟨by rw [EC.out, ES.out, EE.out, HE.out, (nb_yes _).1, (nb_yes _).2.1, (nb_yes _).2.2, show ∀ x, sg false x = false from fun x => rfl], by (repeat' (first | (with_reducible exact Below.refl _ _) | (with_reducible assumption) | (with_reducible refine Below.drew ?_) | (with_reducible refine below_drewN ?_ _) | ((with_reducible refine Below.alloc ?_ ?_ _); rotate_left; focus (go_size; done)) | ((with_reducible refine Below.setCell ?_ ?_ _); rotate_left; focus (go_size; done)) | ((with_reducible refine Below.trans ?_ (Below.mono (by with_reducible assumption) ?_)); rotate_left; focus (go_size; done))))⟩
        · have hcc : ¬ cmpN X Bd < 0 := by unfold cmpN; split <;> (try split) <;> omega
          generalize cmpN X Bd = cc at *
          have he := HRR.out
          rw [upK_up' (by rw [← HBD.out]; rintro ⟨h, _⟩; exact hlt h)] at he
          have HE := Far.mk he
          clear hlt he hrr hroom HRR
          go_wp2_with fail
          go_roundg j
          case measure => omega
          case rel => exact ⟨by omega, rfl, HE, Far.mk (by simp), N4.out, nw⟩
      · have HRR : Far (r = upK X true (j + 1)) := hrr
        by_cases hle : X ≤ Bd
        · have hcc : cmpN X Bd ≤ 0 := by unfold cmpN; split <;> (try split) <;> omega
          have hroom2 : st ≤ X := by
            rw [HST.out]
            refine down_room (HX0.out rfl) jn ?_
            rcases hroom.out with h | h | h
            · left; omega
            · right; exact h
            · cases h
          generalize cmpN X Bd = cc at *
          have he := HRR.out
          rw [upK_down (by rw [← HBD.out]; exact hle), ← HST.out] at he
          have HE := Far.mk he
          have HRM := Lib.hid hroom2
          have S4 := Lib.hid (show Slim (X - st) from fun t => Nat.lt_of_le_of_lt (Nat.sub_le _ _) (SX.out t))
          clear hle he hrr hroom HRR hroom2
          go_wp2_with fail
          refine (rless_any X st HRM.out _ _ _ DX.out Hd4.out SX.out.tiny.small S2.out.tiny.small).mono ?_
          rintro _ w8 ⟨v8, rfl, d8, hb8⟩; have hb8s := hb8.size; (try simp only [World.size_alloc, World.size_setCell, World.size_drew, World.heap_drewN] at hb8s); obtain ⟨hb8c, hb8f⟩ := bcell hb8; (try have : w.heap.size < w8.heap.size := by omega); (try have : w.heap.size + 1 < w8.heap.size := by omega); (try have : w.heap.size + 1 + 1 < w8.heap.size := by omega); (try have : w.heap.size + 1 + 1 + 1 < w8.heap.size := by omega); have Hd8 := Lib.hid d8; clear d8
          have nw8 : Below w4.heap.size w4 w8 := by (repeat' (first | (with_reducible exact Below.refl _ _) | (with_reducible assumption) | (with_reducible refine Below.drew ?_) | (with_reducible refine below_drewN ?_ _) | ((with_reducible refine Below.alloc ?_ ?_ _); rotate_left; focus (go_size; done)) | ((with_reducible refine Below.setCell ?_ ?_ _); rotate_left; focus (go_size; done)) | ((with_reducible refine Below.trans ?_ (Below.mono (by with_reducible assumption) ?_)); rotate_left; focus (go_size; done))))
          clear hb8c hb8f
          go_wp2_with fail
          refine (H18.out _).mono ?_
          rintro _ w9 ⟨v9, rfl, d9, hb9⟩; have hb9s := hb9.size; (try simp only [World.size_alloc, World.size_setCell, World.size_drew, World.heap_drewN] at hb9s); obtain ⟨hb9c, hb9f⟩ := bcell hb9; (try have : w.heap.size < w9.heap.size := by omega); (try have : w.heap.size + 1 < w9.heap.size := by omega); (try have : w.heap.size + 1 + 1 < w9.heap.size := by omega); (try have : w.heap.size + 1 + 1 + 1 < w9.heap.size := by omega); have Hd9 := Lib.hid d9; clear d9
          clear hb9c hb9f
          go_wp2_with fail
          refine (rfit_any false (X - st) (10 ^ 18) _ _ _ (Hd8.out.below hb9) Hd9.out S4.out (ten_slim (k := 18) (by decide)) (Nat.pow_pos (by decide))).mono ?_
          rintro _ w10 ⟨rfl, hb10⟩; have hb10s := hb10.size; (try simp only [World.size_alloc, World.size_setCell, World.size_drew, World.heap_drewN] at hb10s); obtain ⟨hb10c, hb10f⟩ := bcell hb10; (try have : w.heap.size < w10.heap.size := by omega); (try have : w.heap.size + 1 < w10.heap.size := by omega); (try have : w.heap.size + 1 + 1 < w10.heap.size := by omega); (try have : w.heap.size + 1 + 1 + 1 < w10.heap.size := by omega)
          have n10 : Bk w10 (w.heap.size + 1) 26 [.bool false, .int .u64 0, .int .u64 0, .int .i64 0] := ((N4.out.below nw8 n4l).below hb9 (N4.out.below nw8 n4l).lt).below hb10 ((N4.out.below nw8 n4l).below hb9 (N4.out.below nw8 n4l).lt).lt
          have n10_0 := n10.cell 0 rfl
          have n10_1 := n10.cell 1 rfl
          have n10_2 := n10.cell 2 rfl
          have n10_3 := n10.cell 3 rfl
          have n10_4 := n10.frozen 0
          have n10_5 := n10.frozen 1
          have n10_6 := n10.frozen 2
          have n10_7 := n10.frozen 3
          clear hb10c hb10f
          go_wp2_with fail
          refine bodyPost_ret (by simp [results, Try.results68, go_sem, *]; try rfl) rfl ?_
          exact ⟨by rw [EC.out, ES.out, EE.out, HE.out, (nb_yes _).1, (nb_yes _).2.1, (nb_yes _).2.2, show ∀ x, sg false x = false from fun x => rfl], by (repeat' (first | (with_reducible exact Below.refl _ _) | (with_reducible assumption) | (with_reducible refine Below.drew ?_) | (with_reducible refine below_drewN ?_ _) | ((with_reducible refine Below.alloc ?_ ?_ _); rotate_left; focus (go_size; done)) | ((with_reducible refine Below.setCell ?_ ?_ _); rotate_left; focus (go_size; done)) | ((with_reducible refine Below.trans ?_ (Below.mono (by with_reducible assumption) ?_)); rotate_left; focus (go_size; done))))⟩
        · have hcc : ¬ cmpN X Bd ≤ 0 := by unfold cmpN; rw [if_neg (by omega), if_neg (by omega)]; decide
          have hc3 : ¬ cmpN X Bd < 0 := by omega
          generalize cmpN X Bd = cc at *
          have he := HRR.out
          rw [upK_down' (by rw [← HBD.out]; exact hle)] at he
          have HE := Far.mk he
          have hnr : Far (j = 19 ∨ B34 * 10 ^ (18 - j) < X ∨ true = false) := Far.mk (.inr (.inl (by rw [← HBD.out]; omega)))
          clear hle he hrr hroom HRR
          go_wp2_with fail
          go_roundg j
          case measure => omega
          case rel => exact ⟨by omega, rfl, HE, hnr, N4.out, nw⟩
end Go.Proofs.Ythkgjodidkpaeaa

set_option linter.unusedSimpArgs false
set_option linter.unusedVariables false
namespace Go.Proofs.Ythkgjodidkpaeaa
open Go.RowKit

set_option maxRecDepth 100000 in
set_option maxHeartbeats 4000000 in
theorem docnext_f (x1 x0 s : Int) (n0 : Bool) (n1 n2 n3 ee : Int)
    (H1 : ∀ W, Calls Try.prog 13 #[.agg #[.bool false, .int .u64 x1, .int .u64 x0, .int .i64 s]] W fun e w' => e = .returned (.bool true) ∧ Below W.heap.size W w')
    (H2 : ∀ W, Calls Try.prog 68 #[.agg #[.bool false, .int .u64 x1, .int .u64 x0, .int .i64 s], .bool false] W fun e w' => e = .returned (.tuple #[.agg #[.bool n0, .int .u64 n1, .int .u64 n2, .int .i64 n3], .int .i64 ee]) ∧ Below W.heap.size W w')
    (w : World) : Calls Try.prog 30 #[.agg #[.bool false, .int .u64 x1, .int .u64 x0, .int .i64 s]] w fun e w' => e = .returned (.tuple #[.agg #[.bool n0, .int .u64 n1, .int .u64 n2, .int .i64 n3], .int .i64 ee]) ∧ Below w.heap.size w w' := by
  have K1 := Lib.hid H1
  have K2 := Lib.hid H2
  clear H1 H2
  go_enter Try.func30, Try.ntmps30
  go_wp2_with fail
  refine (K1.out _).mono ?_
  rintro _ w1 ⟨rfl, hb1⟩; have hb1s := hb1.size; (try simp only [World.size_alloc, World.size_setCell, World.size_drew, World.heap_drewN] at hb1s); obtain ⟨hb1c, hb1f⟩ := bcell hb1; (try have : w.heap.size < w1.heap.size := by omega); (try have : w.heap.size + 1 < w1.heap.size := by omega); (try have : w.heap.size + 1 + 1 < w1.heap.size := by omega); (try have : w.heap.size + 1 + 1 + 1 < w1.heap.size := by omega)
  have aq1 : Bk w1 (w.heap.size) 26 [.bool false, .int .u64 x1, .int .u64 x0, .int .i64 s] := by (repeat (first | (with_reducible assumption) | ((with_reducible refine Bk.new_ ?_); (first | rfl | (simp only [World.size_alloc, World.size_setCell, World.size_drew, World.heap_drewN]; done))) | (with_reducible refine Bk.alloc ?_ _) | (with_reducible refine Bk.drew ?_) | (with_reducible refine Bk.drewN ?_ _) | ((with_reducible refine Bk.far ?_ ?_ _); rotate_left; focus (simp only []; omega)) | ((with_reducible refine Bk.below ?_ (by with_reducible assumption) ?_); rotate_left; focus (go_size; done))))
  have aq1_0 := aq1.cell 0 rfl
  have aq1_1 := aq1.cell 1 rfl
  have aq1_2 := aq1.cell 2 rfl
  have aq1_3 := aq1.cell 3 rfl
  have aq1_4 := aq1.frozen 0
  have aq1_5 := aq1.frozen 1
  have aq1_6 := aq1.frozen 2
  have aq1_7 := aq1.frozen 3
  have aq1l := aq1.lt
  have rq1 : Bk w1 (w.heap.size + 1) 26 [.bool false, .int .u64 0, .int .u64 0, .int .i64 0] := by (repeat (first | (with_reducible assumption) | ((with_reducible refine Bk.new_ ?_); (first | rfl | (simp only [World.size_alloc, World.size_setCell, World.size_drew, World.heap_drewN]; done))) | (with_reducible refine Bk.alloc ?_ _) | (with_reducible refine Bk.drew ?_) | (with_reducible refine Bk.drewN ?_ _) | ((with_reducible refine Bk.far ?_ ?_ _); rotate_left; focus (simp only []; omega)) | ((with_reducible refine Bk.below ?_ (by with_reducible assumption) ?_); rotate_left; focus (go_size; done))))
  have rq1_0 := rq1.cell 0 rfl
  have rq1_1 := rq1.cell 1 rfl
  have rq1_2 := rq1.cell 2 rfl
  have rq1_3 := rq1.cell 3 rfl
  have rq1_4 := rq1.frozen 0
  have rq1_5 := rq1.frozen 1
  have rq1_6 := rq1.frozen 2
  have rq1_7 := rq1.frozen 3
  have rq1l := rq1.lt
  clear hb1c hb1f
  go_wp2_with fail
  refine calls_named (fun W => Bk W (w.heap.size) 26 [.bool false, .int .u64 x1, .int .u64 x0, .int .i64 s] ∧ Bk W (w.heap.size + 1) 26 [.bool false, .int .u64 0, .int .u64 0, .int .i64 0] ∧ Below w.heap.size w W) ⟨?h0, ?h1, ?h2⟩ ?_
  case h0 => ((repeat (first | (with_reducible assumption) | ((with_reducible refine Bk.new_ ?_); (first | rfl | (simp only [World.size_alloc, World.size_setCell, World.size_drew, World.heap_drewN]; done))) | (with_reducible refine Bk.alloc ?_ _) | (with_reducible refine Bk.drew ?_) | (with_reducible refine Bk.drewN ?_ _) | ((with_reducible refine Bk.far ?_ ?_ _); rotate_left; focus (simp only []; omega)) | ((with_reducible refine Bk.below ?_ (by with_reducible assumption) ?_); rotate_left; focus (go_size; done)))); done)
  case h1 => ((repeat (first | (with_reducible assumption) | ((with_reducible refine Bk.new_ ?_); (first | rfl | (simp only [World.size_alloc, World.size_setCell, World.size_drew, World.heap_drewN]; done))) | (with_reducible refine Bk.alloc ?_ _) | (with_reducible refine Bk.drew ?_) | (with_reducible refine Bk.drewN ?_ _) | ((with_reducible refine Bk.far ?_ ?_ _); rotate_left; focus (simp only []; omega)) | ((with_reducible refine Bk.below ?_ (by with_reducible assumption) ?_); rotate_left; focus (go_size; done)))); done)
  case h2 => ((repeat' (first | (with_reducible exact Below.refl _ _) | (with_reducible assumption) | (with_reducible refine Below.drew ?_) | (with_reducible refine below_drewN ?_ _) | ((with_reducible refine Below.alloc ?_ ?_ _); rotate_left; focus (go_size; done)) | ((with_reducible refine Below.setCell ?_ ?_ _); rotate_left; focus (go_size; done)) | ((with_reducible refine Below.trans ?_ (Below.mono (by with_reducible assumption) ?_)); rotate_left; focus (go_size; done)))); done)
  clear aq1_0 aq1_1 aq1_2 aq1_3 aq1_4 aq1_5 aq1_6 aq1_7
  clear rq1_0 rq1_1 rq1_2 rq1_3 rq1_4 rq1_5 rq1_6 rq1_7
  try clear hb1 hb1s
  try clear aq1 aq1l
  try clear rq1 rq1l
  try clear kal
  try clear krl
  try clear ka
  try clear kr
  try clear kw
  rintro W1 ⟨ka, kr, kw⟩
  have kal := ka.lt
  have krl := kr.lt
  refine (K2.out _).mono ?_
  rintro _ w2 ⟨rfl, hb2⟩; have hb2s := hb2.size; (try simp only [World.size_alloc, World.size_setCell, World.size_drew, World.heap_drewN] at hb2s); obtain ⟨hb2c, hb2f⟩ := bcell hb2; (try have : w.heap.size < w2.heap.size := by omega); (try have : w.heap.size + 1 < w2.heap.size := by omega); (try have : w.heap.size + 1 + 1 < w2.heap.size := by omega); (try have : w.heap.size + 1 + 1 + 1 < w2.heap.size := by omega)
  have aq2 : Bk w2 (w.heap.size) 26 [.bool false, .int .u64 x1, .int .u64 x0, .int .i64 s] := by (repeat (first | (with_reducible assumption) | ((with_reducible refine Bk.new_ ?_); (first | rfl | (simp only [World.size_alloc, World.size_setCell, World.size_drew, World.heap_drewN]; done))) | (with_reducible refine Bk.alloc ?_ _) | (with_reducible refine Bk.drew ?_) | (with_reducible refine Bk.drewN ?_ _) | ((with_reducible refine Bk.far ?_ ?_ _); rotate_left; focus (simp only []; omega)) | ((with_reducible refine Bk.below ?_ (by with_reducible assumption) ?_); rotate_left; focus (go_size; done))))
  have aq2_0 := aq2.cell 0 rfl
  have aq2_1 := aq2.cell 1 rfl
  have aq2_2 := aq2.cell 2 rfl
  have aq2_3 := aq2.cell 3 rfl
  have aq2_4 := aq2.frozen 0
  have aq2_5 := aq2.frozen 1
  have aq2_6 := aq2.frozen 2
  have aq2_7 := aq2.frozen 3
  have aq2l := aq2.lt
  have rq2 : Bk w2 (w.heap.size + 1) 26 [.bool false, .int .u64 0, .int .u64 0, .int .i64 0] := by (repeat (first | (with_reducible assumption) | ((with_reducible refine Bk.new_ ?_); (first | rfl | (simp only [World.size_alloc, World.size_setCell, World.size_drew, World.heap_drewN]; done))) | (with_reducible refine Bk.alloc ?_ _) | (with_reducible refine Bk.drew ?_) | (with_reducible refine Bk.drewN ?_ _) | ((with_reducible refine Bk.far ?_ ?_ _); rotate_left; focus (simp only []; omega)) | ((with_reducible refine Bk.below ?_ (by with_reducible assumption) ?_); rotate_left; focus (go_size; done))))
  have rq2_0 := rq2.cell 0 rfl
  have rq2_1 := rq2.cell 1 rfl
  have rq2_2 := rq2.cell 2 rfl
  have rq2_3 := rq2.cell 3 rfl
  have rq2_4 := rq2.frozen 0
  have rq2_5 := rq2.frozen 1
  have rq2_6 := rq2.frozen 2
  have rq2_7 := rq2.frozen 3
  have rq2l := rq2.lt
  clear hb2c hb2f
  go_wp2_with fail
  refine bodyPost_ret (by simp [results, Try.results30, go_sem, *]; try rfl) rfl ?_
  exact ⟨rfl, by (repeat' (first | (with_reducible exact Below.refl _ _) | (with_reducible assumption) | (with_reducible refine Below.drew ?_) | (with_reducible refine below_drewN ?_ _) | ((with_reducible refine Below.alloc ?_ ?_ _); rotate_left; focus (go_size; done)) | ((with_reducible refine Below.setCell ?_ ?_ _); rotate_left; focus (go_size; done)) | ((with_reducible refine Below.trans ?_ (Below.mono (by with_reducible assumption) ?_)); rotate_left; focus (go_size; done))))⟩
set_option maxRecDepth 100000 in
set_option maxHeartbeats 4000000 in
theorem docnext_t (x1 x0 s : Int) (n0 : Bool) (n1 n2 n3 ee : Int) (m0 : Bool) (m1 m2 m3 : Int)
    (H1 : ∀ W, Calls Try.prog 13 #[.agg #[.bool true, .int .u64 x1, .int .u64 x0, .int .i64 s]] W fun e w' => e = .returned (.bool true) ∧ Below W.heap.size W w')
    (H2 : ∀ W, Calls Try.prog 68 #[.agg #[.bool true, .int .u64 x1, .int .u64 x0, .int .i64 s], .bool true] W fun e w' => e = .returned (.tuple #[.agg #[.bool n0, .int .u64 n1, .int .u64 n2, .int .i64 n3], .int .i64 ee]) ∧ Below W.heap.size W w')
    (H3 : ∀ W, Calls Try.prog 65 #[.agg #[.bool n0, .int .u64 n1, .int .u64 n2, .int .i64 n3]] W fun e w' => e = .returned (.agg #[.bool m0, .int .u64 m1, .int .u64 m2, .int .i64 m3]) ∧ Below W.heap.size W w')
    (w : World) : Calls Try.prog 30 #[.agg #[.bool true, .int .u64 x1, .int .u64 x0, .int .i64 s]] w fun e w' => e = .returned (.tuple #[.agg #[.bool m0, .int .u64 m1, .int .u64 m2, .int .i64 m3], .int .i64 ee]) ∧ Below w.heap.size w w' := by
  have K1 := Lib.hid H1
  have K2 := Lib.hid H2
  have K3 := Lib.hid H3
  clear H1 H2 H3
  go_enter Try.func30, Try.ntmps30
  go_wp2_with fail
  refine (K1.out _).mono ?_
  rintro _ w1 ⟨rfl, hb1⟩; have hb1s := hb1.size; (try simp only [World.size_alloc, World.size_setCell, World.size_drew, World.heap_drewN] at hb1s); obtain ⟨hb1c, hb1f⟩ := bcell hb1; (try have : w.heap.size < w1.heap.size := by omega); (try have : w.heap.size + 1 < w1.heap.size := by omega); (try have : w.heap.size + 1 + 1 < w1.heap.size := by omega); (try have : w.heap.size + 1 + 1 + 1 < w1.heap.size := by omega)
  have aq1 : Bk w1 (w.heap.size) 26 [.bool true, .int .u64 x1, .int .u64 x0, .int .i64 s] := by (repeat (first | (with_reducible assumption) | ((with_reducible refine Bk.new_ ?_); (first | rfl | (simp only [World.size_alloc, World.size_setCell, World.size_drew, World.heap_drewN]; done))) | (with_reducible refine Bk.alloc ?_ _) | (with_reducible refine Bk.drew ?_) | (with_reducible refine Bk.drewN ?_ _) | ((with_reducible refine Bk.far ?_ ?_ _); rotate_left; focus (simp only []; omega)) | ((with_reducible refine Bk.below ?_ (by with_reducible assumption) ?_); rotate_left; focus (go_size; done))))
  have aq1_0 := aq1.cell 0 rfl
  have aq1_1 := aq1.cell 1 rfl
  have aq1_2 := aq1.cell 2 rfl
  have aq1_3 := aq1.cell 3 rfl
  have aq1_4 := aq1.frozen 0
  have aq1_5 := aq1.frozen 1
  have aq1_6 := aq1.frozen 2
  have aq1_7 := aq1.frozen 3
  have aq1l := aq1.lt
  have rq1 : Bk w1 (w.heap.size + 1) 26 [.bool false, .int .u64 0, .int .u64 0, .int .i64 0] := by (repeat (first | (with_reducible assumption) | ((with_reducible refine Bk.new_ ?_); (first | rfl | (simp only [World.size_alloc, World.size_setCell, World.size_drew, World.heap_drewN]; done))) | (with_reducible refine Bk.alloc ?_ _) | (with_reducible refine Bk.drew ?_) | (with_reducible refine Bk.drewN ?_ _) | ((with_reducible refine Bk.far ?_ ?_ _); rotate_left; focus (simp only []; omega)) | ((with_reducible refine Bk.below ?_ (by with_reducible assumption) ?_); rotate_left; focus (go_size; done))))
  have rq1_0 := rq1.cell 0 rfl
  have rq1_1 := rq1.cell 1 rfl
  have rq1_2 := rq1.cell 2 rfl
  have rq1_3 := rq1.cell 3 rfl
  have rq1_4 := rq1.frozen 0
  have rq1_5 := rq1.frozen 1
  have rq1_6 := rq1.frozen 2
  have rq1_7 := rq1.frozen 3
  have rq1l := rq1.lt
  clear hb1c hb1f
  go_wp2_with fail
  refine calls_named (fun W => Bk W (w.heap.size) 26 [.bool true, .int .u64 x1, .int .u64 x0, .int .i64 s] ∧ Bk W (w.heap.size + 1) 26 [.bool false, .int .u64 0, .int .u64 0, .int .i64 0] ∧ Below w.heap.size w W) ⟨?h0, ?h1, ?h2⟩ ?_
  case h0 => ((repeat (first | (with_reducible assumption) | ((with_reducible refine Bk.new_ ?_); (first | rfl | (simp only [World.size_alloc, World.size_setCell, World.size_drew, World.heap_drewN]; done))) | (with_reducible refine Bk.alloc ?_ _) | (with_reducible refine Bk.drew ?_) | (with_reducible refine Bk.drewN ?_ _) | ((with_reducible refine Bk.far ?_ ?_ _); rotate_left; focus (simp only []; omega)) | ((with_reducible refine Bk.below ?_ (by with_reducible assumption) ?_); rotate_left; focus (go_size; done)))); done)
  case h1 => ((repeat (first | (with_reducible assumption) | ((with_reducible refine Bk.new_ ?_); (first | rfl | (simp only [World.size_alloc, World.size_setCell, World.size_drew, World.heap_drewN]; done))) | (with_reducible refine Bk.alloc ?_ _) | (with_reducible refine Bk.drew ?_) | (with_reducible refine Bk.drewN ?_ _) | ((with_reducible refine Bk.far ?_ ?_ _); rotate_left; focus (simp only []; omega)) | ((with_reducible refine Bk.below ?_ (by with_reducible assumption) ?_); rotate_left; focus (go_size; done)))); done)
  case h2 => ((repeat' (first | (with_reducible exact Below.refl _ _) | (with_reducible assumption) | (with_reducible refine Below.drew ?_) | (with_reducible refine below_drewN ?_ _) | ((with_reducible refine Below.alloc ?_ ?_ _); rotate_left; focus (go_size; done)) | ((with_reducible refine Below.setCell ?_ ?_ _); rotate_left; focus (go_size; done)) | ((with_reducible refine Below.trans ?_ (Below.mono (by with_reducible assumption) ?_)); rotate_left; focus (go_size; done)))); done)
  clear aq1_0 aq1_1 aq1_2 aq1_3 aq1_4 aq1_5 aq1_6 aq1_7
  clear rq1_0 rq1_1 rq1_2 rq1_3 rq1_4 rq1_5 rq1_6 rq1_7
  try clear hb1 hb1s
  try clear aq1 aq1l
  try clear rq1 rq1l
  try clear kal
  try clear krl
  try clear ka
  try clear kr
  try clear kw
  rintro W1 ⟨ka, kr, kw⟩
  have kal := ka.lt
  have krl := kr.lt
  refine (K2.out _).mono ?_
  rintro _ w2 ⟨rfl, hb2⟩; have hb2s := hb2.size; (try simp only [World.size_alloc, World.size_setCell, World.size_drew, World.heap_drewN] at hb2s); obtain ⟨hb2c, hb2f⟩ := bcell hb2; (try have : w.heap.size < w2.heap.size := by omega); (try have : w.heap.size + 1 < w2.heap.size := by omega); (try have : w.heap.size + 1 + 1 < w2.heap.size := by omega); (try have : w.heap.size + 1 + 1 + 1 < w2.heap.size := by omega)
  have aq2 : Bk w2 (w.heap.size) 26 [.bool true, .int .u64 x1, .int .u64 x0, .int .i64 s] := by (repeat (first | (with_reducible assumption) | ((with_reducible refine Bk.new_ ?_); (first | rfl | (simp only [World.size_alloc, World.size_setCell, World.size_drew, World.heap_drewN]; done))) | (with_reducible refine Bk.alloc ?_ _) | (with_reducible refine Bk.drew ?_) | (with_reducible refine Bk.drewN ?_ _) | ((with_reducible refine Bk.far ?_ ?_ _); rotate_left; focus (simp only []; omega)) | ((with_reducible refine Bk.below ?_ (by with_reducible assumption) ?_); rotate_left; focus (go_size; done))))
  have aq2_0 := aq2.cell 0 rfl
  have aq2_1 := aq2.cell 1 rfl
  have aq2_2 := aq2.cell 2 rfl
  have aq2_3 := aq2.cell 3 rfl
  have aq2_4 := aq2.frozen 0
  have aq2_5 := aq2.frozen 1
  have aq2_6 := aq2.frozen 2
  have aq2_7 := aq2.frozen 3
  have aq2l := aq2.lt
  have rq2 : Bk w2 (w.heap.size + 1) 26 [.bool false, .int .u64 0, .int .u64 0, .int .i64 0] := by (repeat (first | (with_reducible assumption) | ((with_reducible refine Bk.new_ ?_); (first | rfl | (simp only [World.size_alloc, World.size_setCell, World.size_drew, World.heap_drewN]; done))) | (with_reducible refine Bk.alloc ?_ _) | (with_reducible refine Bk.drew ?_) | (with_reducible refine Bk.drewN ?_ _) | ((with_reducible refine Bk.far ?_ ?_ _); rotate_left; focus (simp only []; omega)) | ((with_reducible refine Bk.below ?_ (by with_reducible assumption) ?_); rotate_left; focus (go_size; done))))
  have rq2_0 := rq2.cell 0 rfl
  have rq2_1 := rq2.cell 1 rfl
  have rq2_2 := rq2.cell 2 rfl
  have rq2_3 := rq2.cell 3 rfl
  have rq2_4 := rq2.frozen 0
  have rq2_5 := rq2.frozen 1
  have rq2_6 := rq2.frozen 2
  have rq2_7 := rq2.frozen 3
  have rq2l := rq2.lt
  clear hb2c hb2f
  go_wp2_with fail
  obtain ⟨gn, hgn⟩ : ∃ gn, gn = w2.heap.size := ⟨_, rfl⟩
  refine calls_named (fun W => Bk W (w.heap.size) 26 [.bool true, .int .u64 x1, .int .u64 x0, .int .i64 s] ∧ Bk W (w.heap.size + 1) 26 [.bool false, .int .u64 0, .int .u64 0, .int .i64 0] ∧ Bk W w2.heap.size 26 [.bool n0, .int .u64 n1, .int .u64 n2, .int .i64 n3] ∧ Below w.heap.size w W) ⟨?h0, ?h1, ?h2, ?h3⟩ ?_
  case h0 => ((repeat (first | (with_reducible assumption) | ((with_reducible refine Bk.new_ ?_); (first | rfl | (simp only [World.size_alloc, World.size_setCell, World.size_drew, World.heap_drewN]; done))) | (with_reducible refine Bk.alloc ?_ _) | (with_reducible refine Bk.drew ?_) | (with_reducible refine Bk.drewN ?_ _) | ((with_reducible refine Bk.far ?_ ?_ _); rotate_left; focus (simp only []; omega)) | ((with_reducible refine Bk.below ?_ (by with_reducible assumption) ?_); rotate_left; focus (go_size; done)))); done)
  case h1 => ((repeat (first | (with_reducible assumption) | ((with_reducible refine Bk.new_ ?_); (first | rfl | (simp only [World.size_alloc, World.size_setCell, World.size_drew, World.heap_drewN]; done))) | (with_reducible refine Bk.alloc ?_ _) | (with_reducible refine Bk.drew ?_) | (with_reducible refine Bk.drewN ?_ _) | ((with_reducible refine Bk.far ?_ ?_ _); rotate_left; focus (simp only []; omega)) | ((with_reducible refine Bk.below ?_ (by with_reducible assumption) ?_); rotate_left; focus (go_size; done)))); done)
  case h2 => ((repeat (first | (with_reducible assumption) | ((with_reducible refine Bk.new_ ?_); (first | rfl | (simp only [World.size_alloc, World.size_setCell, World.size_drew, World.heap_drewN]; done))) | (with_reducible refine Bk.alloc ?_ _) | (with_reducible refine Bk.drew ?_) | (with_reducible refine Bk.drewN ?_ _) | ((with_reducible refine Bk.far ?_ ?_ _); rotate_left; focus (simp only []; omega)) | ((with_reducible refine Bk.below ?_ (by with_reducible assumption) ?_); rotate_left; focus (go_size; done)))); done)
  case h3 => ((repeat' (first | (with_reducible exact Below.refl _ _) | (with_reducible assumption) | (with_reducible refine Below.drew ?_) | (with_reducible refine below_drewN ?_ _) | ((with_reducible refine Below.alloc ?_ ?_ _); rotate_left; focus (go_size; done)) | ((with_reducible refine Below.setCell ?_ ?_ _); rotate_left; focus (go_size; done)) | ((with_reducible refine Below.trans ?_ (Below.mono (by with_reducible assumption) ?_)); rotate_left; focus (go_size; done)))); done)
  clear aq2_0 aq2_1 aq2_2 aq2_3 aq2_4 aq2_5 aq2_6 aq2_7
  clear rq2_0 rq2_1 rq2_2 rq2_3 rq2_4 rq2_5 rq2_6 rq2_7
  rw [← hgn]
  have gn_a : w.heap.size < gn := by omega
  have gn_r : w.heap.size + 1 < gn := by omega
  clear hgn
  try clear hb2 hb2s
  try clear aq2 aq2l
  try clear rq2 rq2l
  try clear kal
  try clear krl
  try clear ka
  try clear kr
  try clear kw
  rintro W2 ⟨ka, kr, kn, kw⟩
  have kal := ka.lt
  have krl := kr.lt
  have knl := kn.lt
  refine (K3.out _).mono ?_
  rintro _ w3 ⟨rfl, hb3⟩; have hb3s := hb3.size; (try simp only [World.size_alloc, World.size_setCell, World.size_drew, World.heap_drewN] at hb3s); obtain ⟨hb3c, hb3f⟩ := bcell hb3; (try have : w.heap.size < w3.heap.size := by omega); (try have : w.heap.size + 1 < w3.heap.size := by omega); (try have : w.heap.size + 1 + 1 < w3.heap.size := by omega); (try have : w.heap.size + 1 + 1 + 1 < w3.heap.size := by omega)
  have aq3 : Bk w3 (w.heap.size) 26 [.bool true, .int .u64 x1, .int .u64 x0, .int .i64 s] := by (repeat (first | (with_reducible assumption) | ((with_reducible refine Bk.new_ ?_); (first | rfl | (simp only [World.size_alloc, World.size_setCell, World.size_drew, World.heap_drewN]; done))) | (with_reducible refine Bk.alloc ?_ _) | (with_reducible refine Bk.drew ?_) | (with_reducible refine Bk.drewN ?_ _) | ((with_reducible refine Bk.far ?_ ?_ _); rotate_left; focus (simp only []; omega)) | ((with_reducible refine Bk.below ?_ (by with_reducible assumption) ?_); rotate_left; focus (go_size; done))))
  have aq3_0 := aq3.cell 0 rfl
  have aq3_1 := aq3.cell 1 rfl
  have aq3_2 := aq3.cell 2 rfl
  have aq3_3 := aq3.cell 3 rfl
  have aq3_4 := aq3.frozen 0
  have aq3_5 := aq3.frozen 1
  have aq3_6 := aq3.frozen 2
  have aq3_7 := aq3.frozen 3
  have aq3l := aq3.lt
  have rq3 : Bk w3 (w.heap.size + 1) 26 [.bool false, .int .u64 0, .int .u64 0, .int .i64 0] := by (repeat (first | (with_reducible assumption) | ((with_reducible refine Bk.new_ ?_); (first | rfl | (simp only [World.size_alloc, World.size_setCell, World.size_drew, World.heap_drewN]; done))) | (with_reducible refine Bk.alloc ?_ _) | (with_reducible refine Bk.drew ?_) | (with_reducible refine Bk.drewN ?_ _) | ((with_reducible refine Bk.far ?_ ?_ _); rotate_left; focus (simp only []; omega)) | ((with_reducible refine Bk.below ?_ (by with_reducible assumption) ?_); rotate_left; focus (go_size; done))))
  have rq3_0 := rq3.cell 0 rfl
  have rq3_1 := rq3.cell 1 rfl
  have rq3_2 := rq3.cell 2 rfl
  have rq3_3 := rq3.cell 3 rfl
  have rq3_4 := rq3.frozen 0
  have rq3_5 := rq3.frozen 1
  have rq3_6 := rq3.frozen 2
  have rq3_7 := rq3.frozen 3
  have rq3l := rq3.lt
  have nq3 : Bk w3 (gn) 26 [.bool n0, .int .u64 n1, .int .u64 n2, .int .i64 n3] := by (repeat (first | (with_reducible assumption) | ((with_reducible refine Bk.new_ ?_); (first | rfl | (simp only [World.size_alloc, World.size_setCell, World.size_drew, World.heap_drewN]; done))) | (with_reducible refine Bk.alloc ?_ _) | (with_reducible refine Bk.drew ?_) | (with_reducible refine Bk.drewN ?_ _) | ((with_reducible refine Bk.far ?_ ?_ _); rotate_left; focus (simp only []; omega)) | ((with_reducible refine Bk.below ?_ (by with_reducible assumption) ?_); rotate_left; focus (go_size; done))))
  have nq3_0 := nq3.cell 0 rfl
  have nq3_1 := nq3.cell 1 rfl
  have nq3_2 := nq3.cell 2 rfl
  have nq3_3 := nq3.cell 3 rfl
  have nq3_4 := nq3.frozen 0
  have nq3_5 := nq3.frozen 1
  have nq3_6 := nq3.frozen 2
  have nq3_7 := nq3.frozen 3
  have nq3l := nq3.lt
  clear hb3c hb3f
  go_wp2_with fail
  refine bodyPost_ret (by simp [results, Try.results30, go_sem, *]; try rfl) rfl ?_
  exact ⟨rfl, by (repeat' (first | (with_reducible exact Below.refl _ _) | (with_reducible assumption) | (with_reducible refine Below.drew ?_) | (with_reducible refine below_drewN ?_ _) | ((with_reducible refine Below.alloc ?_ ?_ _); rotate_left; focus (go_size; done)) | ((with_reducible refine Below.setCell ?_ ?_ _); rotate_left; focus (go_size; done)) | ((with_reducible refine Below.trans ?_ (Below.mono (by with_reducible assumption) ?_)); rotate_left; focus (go_size; done))))⟩
set_option maxRecDepth 100000 in
set_option maxHeartbeats 4000000 in
theorem docprev_w (b : Bool) (x1 x0 s : Int) (f0 : Bool) (f1 f2 f3 : Int) (n0 : Bool) (n1 n2 n3 ee : Int) (m0 : Bool) (m1 m2 m3 : Int)
    (H1 : ∀ W, Calls Try.prog 13 #[.agg #[.bool b, .int .u64 x1, .int .u64 x0, .int .i64 s]] W fun e w' => e = .returned (.bool true) ∧ Below W.heap.size W w')
    (H2 : ∀ W, Calls Try.prog 65 #[.agg #[.bool b, .int .u64 x1, .int .u64 x0, .int .i64 s]] W fun e w' => e = .returned (.agg #[.bool f0, .int .u64 f1, .int .u64 f2, .int .i64 f3]) ∧ Below W.heap.size W w')
    (H3 : ∀ W, Calls Try.prog 30 #[.agg #[.bool f0, .int .u64 f1, .int .u64 f2, .int .i64 f3]] W fun e w' => e = .returned (.tuple #[.agg #[.bool n0, .int .u64 n1, .int .u64 n2, .int .i64 n3], .int .i64 ee]) ∧ Below W.heap.size W w')
    (H4 : ∀ W, Calls Try.prog 65 #[.agg #[.bool n0, .int .u64 n1, .int .u64 n2, .int .i64 n3]] W fun e w' => e = .returned (.agg #[.bool m0, .int .u64 m1, .int .u64 m2, .int .i64 m3]) ∧ Below W.heap.size W w')
    (w : World) : Calls Try.prog 32 #[.agg #[.bool b, .int .u64 x1, .int .u64 x0, .int .i64 s]] w fun e w' => e = .returned (.tuple #[.agg #[.bool m0, .int .u64 m1, .int .u64 m2, .int .i64 m3], .int .i64 ee]) ∧ Below w.heap.size w w' := by
  have K1 := Lib.hid H1
  have K2 := Lib.hid H2
  have K3 := Lib.hid H3
  have K4 := Lib.hid H4
  clear H1 H2 H3 H4
  go_enter Try.func32, Try.ntmps32
  go_wp2_with fail
  refine (K1.out _).mono ?_
  rintro _ w1 ⟨rfl, hb1⟩; have hb1s := hb1.size; (try simp only [World.size_alloc, World.size_setCell, World.size_drew, World.heap_drewN] at hb1s); obtain ⟨hb1c, hb1f⟩ := bcell hb1; (try have : w.heap.size < w1.heap.size := by omega); (try have : w.heap.size + 1 < w1.heap.size := by omega); (try have : w.heap.size + 1 + 1 < w1.heap.size := by omega); (try have : w.heap.size + 1 + 1 + 1 < w1.heap.size := by omega)
  have aq1 : Bk w1 (w.heap.size) 26 [.bool b, .int .u64 x1, .int .u64 x0, .int .i64 s] := by (repeat (first | (with_reducible assumption) | ((with_reducible refine Bk.new_ ?_); (first | rfl | (simp only [World.size_alloc, World.size_setCell, World.size_drew, World.heap_drewN]; done))) | (with_reducible refine Bk.alloc ?_ _) | (with_reducible refine Bk.drew ?_) | (with_reducible refine Bk.drewN ?_ _) | ((with_reducible refine Bk.far ?_ ?_ _); rotate_left; focus (simp only []; omega)) | ((with_reducible refine Bk.below ?_ (by with_reducible assumption) ?_); rotate_left; focus (go_size; done))))
  have aq1_0 := aq1.cell 0 rfl
  have aq1_1 := aq1.cell 1 rfl
  have aq1_2 := aq1.cell 2 rfl
  have aq1_3 := aq1.cell 3 rfl
  have aq1_4 := aq1.frozen 0
  have aq1_5 := aq1.frozen 1
  have aq1_6 := aq1.frozen 2
  have aq1_7 := aq1.frozen 3
  have aq1l := aq1.lt
  have rq1 : Bk w1 (w.heap.size + 1) 26 [.bool false, .int .u64 0, .int .u64 0, .int .i64 0] := by (repeat (first | (with_reducible assumption) | ((with_reducible refine Bk.new_ ?_); (first | rfl | (simp only [World.size_alloc, World.size_setCell, World.size_drew, World.heap_drewN]; done))) | (with_reducible refine Bk.alloc ?_ _) | (with_reducible refine Bk.drew ?_) | (with_reducible refine Bk.drewN ?_ _) | ((with_reducible refine Bk.far ?_ ?_ _); rotate_left; focus (simp only []; omega)) | ((with_reducible refine Bk.below ?_ (by with_reducible assumption) ?_); rotate_left; focus (go_size; done))))
  have rq1_0 := rq1.cell 0 rfl
  have rq1_1 := rq1.cell 1 rfl
  have rq1_2 := rq1.cell 2 rfl
  have rq1_3 := rq1.cell 3 rfl
  have rq1_4 := rq1.frozen 0
  have rq1_5 := rq1.frozen 1
  have rq1_6 := rq1.frozen 2
  have rq1_7 := rq1.frozen 3
  have rq1l := rq1.lt
  clear hb1c hb1f
  go_wp2_with fail
  refine calls_named (fun W => Bk W (w.heap.size) 26 [.bool b, .int .u64 x1, .int .u64 x0, .int .i64 s] ∧ Bk W (w.heap.size + 1) 26 [.bool false, .int .u64 0, .int .u64 0, .int .i64 0] ∧ Below w.heap.size w W) ⟨?h0, ?h1, ?h2⟩ ?_
  case h0 => ((repeat (first | (with_reducible assumption) | ((with_reducible refine Bk.new_ ?_); (first | rfl | (simp only [World.size_alloc, World.size_setCell, World.size_drew, World.heap_drewN]; done))) | (with_reducible refine Bk.alloc ?_ _) | (with_reducible refine Bk.drew ?_) | (with_reducible refine Bk.drewN ?_ _) | ((with_reducible refine Bk.far ?_ ?_ _); rotate_left; focus (simp only []; omega)) | ((with_reducible refine Bk.below ?_ (by with_reducible assumption) ?_); rotate_left; focus (go_size; done)))); done)
  case h1 => ((repeat (first | (with_reducible assumption) | ((with_reducible refine Bk.new_ ?_); (first | rfl | (simp only [World.size_alloc, World.size_setCell, World.size_drew, World.heap_drewN]; done))) | (with_reducible refine Bk.alloc ?_ _) | (with_reducible refine Bk.drew ?_) | (with_reducible refine Bk.drewN ?_ _) | ((with_reducible refine Bk.far ?_ ?_ _); rotate_left; focus (simp only []; omega)) | ((with_reducible refine Bk.below ?_ (by with_reducible assumption) ?_); rotate_left; focus (go_size; done)))); done)
  case h2 => ((repeat' (first | (with_reducible exact Below.refl _ _) | (with_reducible assumption) | (with_reducible refine Below.drew ?_) | (with_reducible refine below_drewN ?_ _) | ((with_reducible refine Below.alloc ?_ ?_ _); rotate_left; focus (go_size; done)) | ((with_reducible refine Below.setCell ?_ ?_ _); rotate_left; focus (go_size; done)) | ((with_reducible refine Below.trans ?_ (Below.mono (by with_reducible assumption) ?_)); rotate_left; focus (go_size; done)))); done)
  clear aq1_0 aq1_1 aq1_2 aq1_3 aq1_4 aq1_5 aq1_6 aq1_7
  clear rq1_0 rq1_1 rq1_2 rq1_3 rq1_4 rq1_5 rq1_6 rq1_7
  try clear hb1 hb1s
  try clear aq1 aq1l
  try clear rq1 rq1l
  try clear kal
  try clear krl
  try clear ka
  try clear kr
  try clear kw
  rintro W1 ⟨ka, kr, kw⟩
  have kal := ka.lt
  have krl := kr.lt
  refine (K2.out _).mono ?_
  rintro _ w2 ⟨rfl, hb2⟩; have hb2s := hb2.size; (try simp only [World.size_alloc, World.size_setCell, World.size_drew, World.heap_drewN] at hb2s); obtain ⟨hb2c, hb2f⟩ := bcell hb2; (try have : w.heap.size < w2.heap.size := by omega); (try have : w.heap.size + 1 < w2.heap.size := by omega); (try have : w.heap.size + 1 + 1 < w2.heap.size := by omega); (try have : w.heap.size + 1 + 1 + 1 < w2.heap.size := by omega)
  have aq2 : Bk w2 (w.heap.size) 26 [.bool b, .int .u64 x1, .int .u64 x0, .int .i64 s] := by (repeat (first | (with_reducible assumption) | ((with_reducible refine Bk.new_ ?_); (first | rfl | (simp only [World.size_alloc, World.size_setCell, World.size_drew, World.heap_drewN]; done))) | (with_reducible refine Bk.alloc ?_ _) | (with_reducible refine Bk.drew ?_) | (with_reducible refine Bk.drewN ?_ _) | ((with_reducible refine Bk.far ?_ ?_ _); rotate_left; focus (simp only []; omega)) | ((with_reducible refine Bk.below ?_ (by with_reducible assumption) ?_); rotate_left; focus (go_size; done))))
  have aq2_0 := aq2.cell 0 rfl
  have aq2_1 := aq2.cell 1 rfl
  have aq2_2 := aq2.cell 2 rfl
  have aq2_3 := aq2.cell 3 rfl
  have aq2_4 := aq2.frozen 0
  have aq2_5 := aq2.frozen 1
  have aq2_6 := aq2.frozen 2
  have aq2_7 := aq2.frozen 3
  have aq2l := aq2.lt
  have rq2 : Bk w2 (w.heap.size + 1) 26 [.bool false, .int .u64 0, .int .u64 0, .int .i64 0] := by (repeat (first | (with_reducible assumption) | ((with_reducible refine Bk.new_ ?_); (first | rfl | (simp only [World.size_alloc, World.size_setCell, World.size_drew, World.heap_drewN]; done))) | (with_reducible refine Bk.alloc ?_ _) | (with_reducible refine Bk.drew ?_) | (with_reducible refine Bk.drewN ?_ _) | ((with_reducible refine Bk.far ?_ ?_ _); rotate_left; focus (simp only []; omega)) | ((with_reducible refine Bk.below ?_ (by with_reducible assumption) ?_); rotate_left; focus (go_size; done))))
  have rq2_0 := rq2.cell 0 rfl
  have rq2_1 := rq2.cell 1 rfl
  have rq2_2 := rq2.cell 2 rfl
  have rq2_3 := rq2.cell 3 rfl
  have rq2_4 := rq2.frozen 0
  have rq2_5 := rq2.frozen 1
  have rq2_6 := rq2.frozen 2
  have rq2_7 := rq2.frozen 3
  have rq2l := rq2.lt
  clear hb2c hb2f
  go_wp2_with fail
  refine calls_named (fun W => Bk W (w.heap.size) 26 [.bool b, .int .u64 x1, .int .u64 x0, .int .i64 s] ∧ Bk W (w.heap.size + 1) 26 [.bool false, .int .u64 0, .int .u64 0, .int .i64 0] ∧ Below w.heap.size w W) ⟨?h0, ?h1, ?h2⟩ ?_
  case h0 => ((repeat (first | (with_reducible assumption) | ((with_reducible refine Bk.new_ ?_); (first | rfl | (simp only [World.size_alloc, World.size_setCell, World.size_drew, World.heap_drewN]; done))) | (with_reducible refine Bk.alloc ?_ _) | (with_reducible refine Bk.drew ?_) | (with_reducible refine Bk.drewN ?_ _) | ((with_reducible refine Bk.far ?_ ?_ _); rotate_left; focus (simp only []; omega)) | ((with_reducible refine Bk.below ?_ (by with_reducible assumption) ?_); rotate_left; focus (go_size; done)))); done)
  case h1 => ((repeat (first | (with_reducible assumption) | ((with_reducible refine Bk.new_ ?_); (first | rfl | (simp only [World.size_alloc, World.size_setCell, World.size_drew, World.heap_drewN]; done))) | (with_reducible refine Bk.alloc ?_ _) | (with_reducible refine Bk.drew ?_) | (with_reducible refine Bk.drewN ?_ _) | ((with_reducible refine Bk.far ?_ ?_ _); rotate_left; focus (simp only []; omega)) | ((with_reducible refine Bk.below ?_ (by with_reducible assumption) ?_); rotate_left; focus (go_size; done)))); done)
  case h2 => ((repeat' (first | (with_reducible exact Below.refl _ _) | (with_reducible assumption) | (with_reducible refine Below.drew ?_) | (with_reducible refine below_drewN ?_ _) | ((with_reducible refine Below.alloc ?_ ?_ _); rotate_left; focus (go_size; done)) | ((with_reducible refine Below.setCell ?_ ?_ _); rotate_left; focus (go_size; done)) | ((with_reducible refine Below.trans ?_ (Below.mono (by with_reducible assumption) ?_)); rotate_left; focus (go_size; done)))); done)
  clear aq2_0 aq2_1 aq2_2 aq2_3 aq2_4 aq2_5 aq2_6 aq2_7
  clear rq2_0 rq2_1 rq2_2 rq2_3 rq2_4 rq2_5 rq2_6 rq2_7
  try clear hb2 hb2s
  try clear aq2 aq2l
  try clear rq2 rq2l
  try clear kal
  try clear krl
  try clear ka
  try clear kr
  try clear kw
  rintro W2 ⟨ka, kr, kw⟩
  have kal := ka.lt
  have krl := kr.lt
  refine (K3.out _).mono ?_
  rintro _ w3 ⟨rfl, hb3⟩; have hb3s := hb3.size; (try simp only [World.size_alloc, World.size_setCell, World.size_drew, World.heap_drewN] at hb3s); obtain ⟨hb3c, hb3f⟩ := bcell hb3; (try have : w.heap.size < w3.heap.size := by omega); (try have : w.heap.size + 1 < w3.heap.size := by omega); (try have : w.heap.size + 1 + 1 < w3.heap.size := by omega); (try have : w.heap.size + 1 + 1 + 1 < w3.heap.size := by omega)
  have aq3 : Bk w3 (w.heap.size) 26 [.bool b, .int .u64 x1, .int .u64 x0, .int .i64 s] := by (repeat (first | (with_reducible assumption) | ((with_reducible refine Bk.new_ ?_); (first | rfl | (simp only [World.size_alloc, World.size_setCell, World.size_drew, World.heap_drewN]; done))) | (with_reducible refine Bk.alloc ?_ _) | (with_reducible refine Bk.drew ?_) | (with_reducible refine Bk.drewN ?_ _) | ((with_reducible refine Bk.far ?_ ?_ _); rotate_left; focus (simp only []; omega)) | ((with_reducible refine Bk.below ?_ (by with_reducible assumption) ?_); rotate_left; focus (go_size; done))))
  have aq3_0 := aq3.cell 0 rfl
  have aq3_1 := aq3.cell 1 rfl
  have aq3_2 := aq3.cell 2 rfl
  have aq3_3 := aq3.cell 3 rfl
  have aq3_4 := aq3.frozen 0
  have aq3_5 := aq3.frozen 1
  have aq3_6 := aq3.frozen 2
  have aq3_7 := aq3.frozen 3
  have aq3l := aq3.lt
  have rq3 : Bk w3 (w.heap.size + 1) 26 [.bool false, .int .u64 0, .int .u64 0, .int .i64 0] := by (repeat (first | (with_reducible assumption) | ((with_reducible refine Bk.new_ ?_); (first | rfl | (simp only [World.size_alloc, World.size_setCell, World.size_drew, World.heap_drewN]; done))) | (with_reducible refine Bk.alloc ?_ _) | (with_reducible refine Bk.drew ?_) | (with_reducible refine Bk.drewN ?_ _) | ((with_reducible refine Bk.far ?_ ?_ _); rotate_left; focus (simp only []; omega)) | ((with_reducible refine Bk.below ?_ (by with_reducible assumption) ?_); rotate_left; focus (go_size; done))))
  have rq3_0 := rq3.cell 0 rfl
  have rq3_1 := rq3.cell 1 rfl
  have rq3_2 := rq3.cell 2 rfl
  have rq3_3 := rq3.cell 3 rfl
  have rq3_4 := rq3.frozen 0
  have rq3_5 := rq3.frozen 1
  have rq3_6 := rq3.frozen 2
  have rq3_7 := rq3.frozen 3
  have rq3l := rq3.lt
  clear hb3c hb3f
  go_wp2_with fail
  obtain ⟨gn, hgn⟩ : ∃ gn, gn = w3.heap.size := ⟨_, rfl⟩
  refine calls_named (fun W => Bk W (w.heap.size) 26 [.bool b, .int .u64 x1, .int .u64 x0, .int .i64 s] ∧ Bk W (w.heap.size + 1) 26 [.bool false, .int .u64 0, .int .u64 0, .int .i64 0] ∧ Bk W w3.heap.size 26 [.bool n0, .int .u64 n1, .int .u64 n2, .int .i64 n3] ∧ Below w.heap.size w W) ⟨?h0, ?h1, ?h2, ?h3⟩ ?_
  case h0 => ((repeat (first | (with_reducible assumption) | ((with_reducible refine Bk.new_ ?_); (first | rfl | (simp only [World.size_alloc, World.size_setCell, World.size_drew, World.heap_drewN]; done))) | (with_reducible refine Bk.alloc ?_ _) | (with_reducible refine Bk.drew ?_) | (with_reducible refine Bk.drewN ?_ _) | ((with_reducible refine Bk.far ?_ ?_ _); rotate_left; focus (simp only []; omega)) | ((with_reducible refine Bk.below ?_ (by with_reducible assumption) ?_); rotate_left; focus (go_size; done)))); done)
  case h1 => ((repeat (first | (with_reducible assumption) | ((with_reducible refine Bk.new_ ?_); (first | rfl | (simp only [World.size_alloc, World.size_setCell, World.size_drew, World.heap_drewN]; done))) | (with_reducible refine Bk.alloc ?_ _) | (with_reducible refine Bk.drew ?_) | (with_reducible refine Bk.drewN ?_ _) | ((with_reducible refine Bk.far ?_ ?_ _); rotate_left; focus (simp only []; omega)) | ((with_reducible refine Bk.below ?_ (by with_reducible assumption) ?_); rotate_left; focus (go_size; done)))); done)
  case h2 => ((repeat (first | (with_reducible assumption) | ((with_reducible refine Bk.new_ ?_); (first | rfl | (simp only [World.size_alloc, World.size_setCell, World.size_drew, World.heap_drewN]; done))) | (with_reducible refine Bk.alloc ?_ _) | (with_reducible refine Bk.drew ?_) | (with_reducible refine Bk.drewN ?_ _) | ((with_reducible refine Bk.far ?_ ?_ _); rotate_left; focus (simp only []; omega)) | ((with_reducible refine Bk.below ?_ (by with_reducible assumption) ?_); rotate_left; focus (go_size; done)))); done)
  case h3 => ((repeat' (first | (with_reducible exact Below.refl _ _) | (with_reducible assumption) | (with_reducible refine Below.drew ?_) | (with_reducible refine below_drewN ?_ _) | ((with_reducible refine Below.alloc ?_ ?_ _); rotate_left; focus (go_size; done)) | ((with_reducible refine Below.setCell ?_ ?_ _); rotate_left; focus (go_size; done)) | ((with_reducible refine Below.trans ?_ (Below.mono (by with_reducible assumption) ?_)); rotate_left; focus (go_size; done)))); done)
  clear aq3_0 aq3_1 aq3_2 aq3_3 aq3_4 aq3_5 aq3_6 aq3_7
  clear rq3_0 rq3_1 rq3_2 rq3_3 rq3_4 rq3_5 rq3_6 rq3_7
  rw [← hgn]
  have gn_a : w.heap.size < gn := by omega
  have gn_r : w.heap.size + 1 < gn := by omega
  clear hgn
  try clear hb3 hb3s
  try clear aq3 aq3l
  try clear rq3 rq3l
  try clear kal
  try clear krl
  try clear ka
  try clear kr
  try clear kw
  rintro W3 ⟨ka, kr, kn, kw⟩
  have kal := ka.lt
  have krl := kr.lt
  have knl := kn.lt
  refine (K4.out _).mono ?_
  rintro _ w4 ⟨rfl, hb4⟩; have hb4s := hb4.size; (try simp only [World.size_alloc, World.size_setCell, World.size_drew, World.heap_drewN] at hb4s); obtain ⟨hb4c, hb4f⟩ := bcell hb4; (try have : w.heap.size < w4.heap.size := by omega); (try have : w.heap.size + 1 < w4.heap.size := by omega); (try have : w.heap.size + 1 + 1 < w4.heap.size := by omega); (try have : w.heap.size + 1 + 1 + 1 < w4.heap.size := by omega)
  have aq4 : Bk w4 (w.heap.size) 26 [.bool b, .int .u64 x1, .int .u64 x0, .int .i64 s] := by (repeat (first | (with_reducible assumption) | ((with_reducible refine Bk.new_ ?_); (first | rfl | (simp only [World.size_alloc, World.size_setCell, World.size_drew, World.heap_drewN]; done))) | (with_reducible refine Bk.alloc ?_ _) | (with_reducible refine Bk.drew ?_) | (with_reducible refine Bk.drewN ?_ _) | ((with_reducible refine Bk.far ?_ ?_ _); rotate_left; focus (simp only []; omega)) | ((with_reducible refine Bk.below ?_ (by with_reducible assumption) ?_); rotate_left; focus (go_size; done))))
  have aq4_0 := aq4.cell 0 rfl
  have aq4_1 := aq4.cell 1 rfl
  have aq4_2 := aq4.cell 2 rfl
  have aq4_3 := aq4.cell 3 rfl
  have aq4_4 := aq4.frozen 0
  have aq4_5 := aq4.frozen 1
  have aq4_6 := aq4.frozen 2
  have aq4_7 := aq4.frozen 3
  have aq4l := aq4.lt
  have rq4 : Bk w4 (w.heap.size + 1) 26 [.bool false, .int .u64 0, .int .u64 0, .int .i64 0] := by (repeat (first | (with_reducible assumption) | ((with_reducible refine Bk.new_ ?_); (first | rfl | (simp only [World.size_alloc, World.size_setCell, World.size_drew, World.heap_drewN]; done))) | (with_reducible refine Bk.alloc ?_ _) | (with_reducible refine Bk.drew ?_) | (with_reducible refine Bk.drewN ?_ _) | ((with_reducible refine Bk.far ?_ ?_ _); rotate_left; focus (simp only []; omega)) | ((with_reducible refine Bk.below ?_ (by with_reducible assumption) ?_); rotate_left; focus (go_size; done))))
  have rq4_0 := rq4.cell 0 rfl
  have rq4_1 := rq4.cell 1 rfl
  have rq4_2 := rq4.cell 2 rfl
  have rq4_3 := rq4.cell 3 rfl
  have rq4_4 := rq4.frozen 0
  have rq4_5 := rq4.frozen 1
  have rq4_6 := rq4.frozen 2
  have rq4_7 := rq4.frozen 3
  have rq4l := rq4.lt
  have nq4 : Bk w4 (gn) 26 [.bool n0, .int .u64 n1, .int .u64 n2, .int .i64 n3] := by (repeat (first | (with_reducible assumption) | ((with_reducible refine Bk.new_ ?_); (first | rfl | (simp only [World.size_alloc, World.size_setCell, World.size_drew, World.heap_drewN]; done))) | (with_reducible refine Bk.alloc ?_ _) | (with_reducible refine Bk.drew ?_) | (with_reducible refine Bk.drewN ?_ _) | ((with_reducible refine Bk.far ?_ ?_ _); rotate_left; focus (simp only []; omega)) | ((with_reducible refine Bk.below ?_ (by with_reducible assumption) ?_); rotate_left; focus (go_size; done))))
  have nq4_0 := nq4.cell 0 rfl
  have nq4_1 := nq4.cell 1 rfl
  have nq4_2 := nq4.cell 2 rfl
  have nq4_3 := nq4.cell 3 rfl
  have nq4_4 := nq4.frozen 0
  have nq4_5 := nq4.frozen 1
  have nq4_6 := nq4.frozen 2
  have nq4_7 := nq4.frozen 3
  have nq4l := nq4.lt
  clear hb4c hb4f
  go_wp2_with fail
  refine bodyPost_ret (by simp [results, Try.results32, go_sem, *]; try rfl) rfl ?_
  exact ⟨rfl, by (repeat' (first | (with_reducible exact Below.refl _ _) | (with_reducible assumption) | (with_reducible refine Below.drew ?_) | (with_reducible refine below_drewN ?_ _) | ((with_reducible refine Below.alloc ?_ ?_ _); rotate_left; focus (go_size; done)) | ((with_reducible refine Below.setCell ?_ ?_ _); rotate_left; focus (go_size; done)) | ((with_reducible refine Below.trans ?_ (Below.mono (by with_reducible assumption) ?_)); rotate_left; focus (go_size; done))))⟩
set_option maxRecDepth 100000 in
set_option maxHeartbeats 4000000 in
theorem prev_w (b : Bool) (x1 x0 s : Int) (f0 : Bool) (f1 f2 f3 : Int) (n0 : Bool) (n1 n2 n3 ee : Int) (m0 : Bool) (m1 m2 m3 : Int)
    (H1 : ∀ g W, Bk W g 26 [.bool b, .int .u64 x1, .int .u64 x0, .int .i64 s] → Calls Try.prog 46 #[.slice (some ⟨g, 0, none⟩) 1 1] W fun e w' => e = .returned (.int .i64 0) ∧ Below W.heap.size W w')
    (H2 : ∀ W, Calls Try.prog 50 #[.agg #[.bool b, .int .u64 x1, .int .u64 x0, .int .i64 s]] W fun e w' => e = .returned (.agg #[.bool f0, .int .u64 f1, .int .u64 f2, .int .i64 f3]) ∧ Below W.heap.size W w')
    (H3 : ∀ W, Calls Try.prog 31 #[.agg #[.bool f0, .int .u64 f1, .int .u64 f2, .int .i64 f3]] W fun e w' => e = .returned (.tuple #[.agg #[.bool n0, .int .u64 n1, .int .u64 n2, .int .i64 n3], .int .i64 ee]) ∧ Below W.heap.size W w')
    (H4 : ∀ W, Calls Try.prog 50 #[.agg #[.bool n0, .int .u64 n1, .int .u64 n2, .int .i64 n3]] W fun e w' => e = .returned (.agg #[.bool m0, .int .u64 m1, .int .u64 m2, .int .i64 m3]) ∧ Below W.heap.size W w')
    (w : World) : Calls Try.prog 33 #[.agg #[.bool b, .int .u64 x1, .int .u64 x0, .int .i64 s]] w fun e w' => e = .returned (.tuple #[.agg #[.bool m0, .int .u64 m1, .int .u64 m2, .int .i64 m3], .int .i64 ee]) ∧ Below w.heap.size w w' := by
  have K1 := Lib.hid H1
  have K2 := Lib.hid H2
  have K3 := Lib.hid H3
  have K4 := Lib.hid H4
  clear H1 H2 H3 H4
  go_enter Try.func33, Try.ntmps33
  go_wp2_with fail
  (with_reducible refine (K1.out _ _ ?hg).mono ?_)
  case hg => ((repeat (first | (with_reducible assumption) | ((with_reducible refine Bk.new_ ?_); (first | rfl | (simp only [World.size_alloc, World.size_setCell, World.size_drew, World.heap_drewN]; done))) | (with_reducible refine Bk.alloc ?_ _) | (with_reducible refine Bk.drew ?_) | (with_reducible refine Bk.drewN ?_ _) | ((with_reducible refine Bk.far ?_ ?_ _); rotate_left; focus (simp only []; omega)) | ((with_reducible refine Bk.below ?_ (by with_reducible assumption) ?_); rotate_left; focus (go_size; done)))); done)
  rintro _ w1 ⟨rfl, hb1⟩; have hb1s := hb1.size; (try simp only [World.size_alloc, World.size_setCell, World.size_drew, World.heap_drewN] at hb1s); obtain ⟨hb1c, hb1f⟩ := bcell hb1; (try have : w.heap.size < w1.heap.size := by omega); (try have : w.heap.size + 1 < w1.heap.size := by omega); (try have : w.heap.size + 1 + 1 < w1.heap.size := by omega); (try have : w.heap.size + 1 + 1 + 1 < w1.heap.size := by omega)
  have aq1 : Bk w1 (w.heap.size) 26 [.bool b, .int .u64 x1, .int .u64 x0, .int .i64 s] := by (repeat (first | (with_reducible assumption) | ((with_reducible refine Bk.new_ ?_); (first | rfl | (simp only [World.size_alloc, World.size_setCell, World.size_drew, World.heap_drewN]; done))) | (with_reducible refine Bk.alloc ?_ _) | (with_reducible refine Bk.drew ?_) | (with_reducible refine Bk.drewN ?_ _) | ((with_reducible refine Bk.far ?_ ?_ _); rotate_left; focus (simp only []; omega)) | ((with_reducible refine Bk.below ?_ (by with_reducible assumption) ?_); rotate_left; focus (go_size; done))))
  have aq1_0 := aq1.cell 0 rfl
  have aq1_1 := aq1.cell 1 rfl
  have aq1_2 := aq1.cell 2 rfl
  have aq1_3 := aq1.cell 3 rfl
  have aq1_4 := aq1.frozen 0
  have aq1_5 := aq1.frozen 1
  have aq1_6 := aq1.frozen 2
  have aq1_7 := aq1.frozen 3
  have aq1l := aq1.lt
  have rq1 : Bk w1 (w.heap.size + 1) 26 [.bool false, .int .u64 0, .int .u64 0, .int .i64 0] := by (repeat (first | (with_reducible assumption) | ((with_reducible refine Bk.new_ ?_); (first | rfl | (simp only [World.size_alloc, World.size_setCell, World.size_drew, World.heap_drewN]; done))) | (with_reducible refine Bk.alloc ?_ _) | (with_reducible refine Bk.drew ?_) | (with_reducible refine Bk.drewN ?_ _) | ((with_reducible refine Bk.far ?_ ?_ _); rotate_left; focus (simp only []; omega)) | ((with_reducible refine Bk.below ?_ (by with_reducible assumption) ?_); rotate_left; focus (go_size; done))))
  have rq1_0 := rq1.cell 0 rfl
  have rq1_1 := rq1.cell 1 rfl
  have rq1_2 := rq1.cell 2 rfl
  have rq1_3 := rq1.cell 3 rfl
  have rq1_4 := rq1.frozen 0
  have rq1_5 := rq1.frozen 1
  have rq1_6 := rq1.frozen 2
  have rq1_7 := rq1.frozen 3
  have rq1l := rq1.lt
  clear hb1c hb1f
  go_wp2_with fail
  refine calls_named (fun W => Bk W (w.heap.size) 26 [.bool b, .int .u64 x1, .int .u64 x0, .int .i64 s] ∧ Bk W (w.heap.size + 1) 26 [.bool false, .int .u64 0, .int .u64 0, .int .i64 0] ∧ Below w.heap.size w W) ⟨?h0, ?h1, ?h2⟩ ?_
  case h0 => ((repeat (first | (with_reducible assumption) | ((with_reducible refine Bk.new_ ?_); (first | rfl | (simp only [World.size_alloc, World.size_setCell, World.size_drew, World.heap_drewN]; done))) | (with_reducible refine Bk.alloc ?_ _) | (with_reducible refine Bk.drew ?_) | (with_reducible refine Bk.drewN ?_ _) | ((with_reducible refine Bk.far ?_ ?_ _); rotate_left; focus (simp only []; omega)) | ((with_reducible refine Bk.below ?_ (by with_reducible assumption) ?_); rotate_left; focus (go_size; done)))); done)
  case h1 => ((repeat (first | (with_reducible assumption) | ((with_reducible refine Bk.new_ ?_); (first | rfl | (simp only [World.size_alloc, World.size_setCell, World.size_drew, World.heap_drewN]; done))) | (with_reducible refine Bk.alloc ?_ _) | (with_reducible refine Bk.drew ?_) | (with_reducible refine Bk.drewN ?_ _) | ((with_reducible refine Bk.far ?_ ?_ _); rotate_left; focus (simp only []; omega)) | ((with_reducible refine Bk.below ?_ (by with_reducible assumption) ?_); rotate_left; focus (go_size; done)))); done)
  case h2 => ((repeat' (first | (with_reducible exact Below.refl _ _) | (with_reducible assumption) | (with_reducible refine Below.drew ?_) | (with_reducible refine below_drewN ?_ _) | ((with_reducible refine Below.alloc ?_ ?_ _); rotate_left; focus (go_size; done)) | ((with_reducible refine Below.setCell ?_ ?_ _); rotate_left; focus (go_size; done)) | ((with_reducible refine Below.trans ?_ (Below.mono (by with_reducible assumption) ?_)); rotate_left; focus (go_size; done)))); done)
  clear aq1_0 aq1_1 aq1_2 aq1_3 aq1_4 aq1_5 aq1_6 aq1_7
  clear rq1_0 rq1_1 rq1_2 rq1_3 rq1_4 rq1_5 rq1_6 rq1_7
  try clear hb1 hb1s
  try clear aq1 aq1l
  try clear rq1 rq1l
  try clear kal
  try clear krl
  try clear ka
  try clear kr
  try clear kw
  rintro W1 ⟨ka, kr, kw⟩
  have kal := ka.lt
  have krl := kr.lt
  refine (K2.out _).mono ?_
  rintro _ w2 ⟨rfl, hb2⟩; have hb2s := hb2.size; (try simp only [World.size_alloc, World.size_setCell, World.size_drew, World.heap_drewN] at hb2s); obtain ⟨hb2c, hb2f⟩ := bcell hb2; (try have : w.heap.size < w2.heap.size := by omega); (try have : w.heap.size + 1 < w2.heap.size := by omega); (try have : w.heap.size + 1 + 1 < w2.heap.size := by omega); (try have : w.heap.size + 1 + 1 + 1 < w2.heap.size := by omega)
  have aq2 : Bk w2 (w.heap.size) 26 [.bool b, .int .u64 x1, .int .u64 x0, .int .i64 s] := by (repeat (first | (with_reducible assumption) | ((with_reducible refine Bk.new_ ?_); (first | rfl | (simp only [World.size_alloc, World.size_setCell, World.size_drew, World.heap_drewN]; done))) | (with_reducible refine Bk.alloc ?_ _) | (with_reducible refine Bk.drew ?_) | (with_reducible refine Bk.drewN ?_ _) | ((with_reducible refine Bk.far ?_ ?_ _); rotate_left; focus (simp only []; omega)) | ((with_reducible refine Bk.below ?_ (by with_reducible assumption) ?_); rotate_left; focus (go_size; done))))
  have aq2_0 := aq2.cell 0 rfl
  have aq2_1 := aq2.cell 1 rfl
  have aq2_2 := aq2.cell 2 rfl
  have aq2_3 := aq2.cell 3 rfl
  have aq2_4 := aq2.frozen 0
  have aq2_5 := aq2.frozen 1
  have aq2_6 := aq2.frozen 2
  have aq2_7 := aq2.frozen 3
  have aq2l := aq2.lt
  have rq2 : Bk w2 (w.heap.size + 1) 26 [.bool false, .int .u64 0, .int .u64 0, .int .i64 0] := by (repeat (first | (with_reducible assumption) | ((with_reducible refine Bk.new_ ?_); (first | rfl | (simp only [World.size_alloc, World.size_setCell, World.size_drew, World.heap_drewN]; done))) | (with_reducible refine Bk.alloc ?_ _) | (with_reducible refine Bk.drew ?_) | (with_reducible refine Bk.drewN ?_ _) | ((with_reducible refine Bk.far ?_ ?_ _); rotate_left; focus (simp only []; omega)) | ((with_reducible refine Bk.below ?_ (by with_reducible assumption) ?_); rotate_left; focus (go_size; done))))
  have rq2_0 := rq2.cell 0 rfl
  have rq2_1 := rq2.cell 1 rfl
  have rq2_2 := rq2.cell 2 rfl
  have rq2_3 := rq2.cell 3 rfl
  have rq2_4 := rq2.frozen 0
  have rq2_5 := rq2.frozen 1
  have rq2_6 := rq2.frozen 2
  have rq2_7 := rq2.frozen 3
  have rq2l := rq2.lt
  clear hb2c hb2f
  go_wp2_with fail
  refine calls_named (fun W => Bk W (w.heap.size) 26 [.bool b, .int .u64 x1, .int .u64 x0, .int .i64 s] ∧ Bk W (w.heap.size + 1) 26 [.bool false, .int .u64 0, .int .u64 0, .int .i64 0] ∧ Below w.heap.size w W) ⟨?h0, ?h1, ?h2⟩ ?_
  case h0 => ((repeat (first | (with_reducible assumption) | ((with_reducible refine Bk.new_ ?_); (first | rfl | (simp only [World.size_alloc, World.size_setCell, World.size_drew, World.heap_drewN]; done))) | (with_reducible refine Bk.alloc ?_ _) | (with_reducible refine Bk.drew ?_) | (with_reducible refine Bk.drewN ?_ _) | ((with_reducible refine Bk.far ?_ ?_ _); rotate_left; focus (simp only []; omega)) | ((with_reducible refine Bk.below ?_ (by with_reducible assumption) ?_); rotate_left; focus (go_size; done)))); done)
  case h1 => ((repeat (first | (with_reducible assumption) | ((with_reducible refine Bk.new_ ?_); (first | rfl | (simp only [World.size_alloc, World.size_setCell, World.size_drew, World.heap_drewN]; done))) | (with_reducible refine Bk.alloc ?_ _) | (with_reducible refine Bk.drew ?_) | (with_reducible refine Bk.drewN ?_ _) | ((with_reducible refine Bk.far ?_ ?_ _); rotate_left; focus (simp only []; omega)) | ((with_reducible refine Bk.below ?_ (by with_reducible assumption) ?_); rotate_left; focus (go_size; done)))); done)
  case h2 => ((repeat' (first | (with_reducible exact Below.refl _ _) | (with_reducible assumption) | (with_reducible refine Below.drew ?_) | (with_reducible refine below_drewN ?_ _) | ((with_reducible refine Below.alloc ?_ ?_ _); rotate_left; focus (go_size; done)) | ((with_reducible refine Below.setCell ?_ ?_ _); rotate_left; focus (go_size; done)) | ((with_reducible refine Below.trans ?_ (Below.mono (by with_reducible assumption) ?_)); rotate_left; focus (go_size; done)))); done)
  clear aq2_0 aq2_1 aq2_2 aq2_3 aq2_4 aq2_5 aq2_6 aq2_7
  clear rq2_0 rq2_1 rq2_2 rq2_3 rq2_4 rq2_5 rq2_6 rq2_7
  try clear hb2 hb2s
  try clear aq2 aq2l
  try clear rq2 rq2l
  try clear kal
  try clear krl
  try clear ka
  try clear kr
  try clear kw
  rintro W2 ⟨ka, kr, kw⟩
  have kal := ka.lt
  have krl := kr.lt
  refine (K3.out _).mono ?_
  rintro _ w3 ⟨rfl, hb3⟩; have hb3s := hb3.size; (try simp only [World.size_alloc, World.size_setCell, World.size_drew, World.heap_drewN] at hb3s); obtain ⟨hb3c, hb3f⟩ := bcell hb3; (try have : w.heap.size < w3.heap.size := by omega); (try have : w.heap.size + 1 < w3.heap.size := by omega); (try have : w.heap.size + 1 + 1 < w3.heap.size := by omega); (try have : w.heap.size + 1 + 1 + 1 < w3.heap.size := by omega)
  have aq3 : Bk w3 (w.heap.size) 26 [.bool b, .int .u64 x1, .int .u64 x0, .int .i64 s] := by (repeat (first | (with_reducible assumption) | ((with_reducible refine Bk.new_ ?_); (first | rfl | (simp only [World.size_alloc, World.size_setCell, World.size_drew, World.heap_drewN]; done))) | (with_reducible refine Bk.alloc ?_ _) | (with_reducible refine Bk.drew ?_) | (with_reducible refine Bk.drewN ?_ _) | ((with_reducible refine Bk.far ?_ ?_ _); rotate_left; focus (simp only []; omega)) | ((with_reducible refine Bk.below ?_ (by with_reducible assumption) ?_); rotate_left; focus (go_size; done))))
  have aq3_0 := aq3.cell 0 rfl
  have aq3_1 := aq3.cell 1 rfl
  have aq3_2 := aq3.cell 2 rfl
  have aq3_3 := aq3.cell 3 rfl
  have aq3_4 := aq3.frozen 0
  have aq3_5 := aq3.frozen 1
  have aq3_6 := aq3.frozen 2
  have aq3_7 := aq3.frozen 3
  have aq3l := aq3.lt
  have rq3 : Bk w3 (w.heap.size + 1) 26 [.bool false, .int .u64 0, .int .u64 0, .int .i64 0] := by (repeat (first | (with_reducible assumption) | ((with_reducible refine Bk.new_ ?_); (first | rfl | (simp only [World.size_alloc, World.size_setCell, World.size_drew, World.heap_drewN]; done))) | (with_reducible refine Bk.alloc ?_ _) | (with_reducible refine Bk.drew ?_) | (with_reducible refine Bk.drewN ?_ _) | ((with_reducible refine Bk.far ?_ ?_ _); rotate_left; focus (simp only []; omega)) | ((with_reducible refine Bk.below ?_ (by with_reducible assumption) ?_); rotate_left; focus (go_size; done))))
  have rq3_0 := rq3.cell 0 rfl
  have rq3_1 := rq3.cell 1 rfl
  have rq3_2 := rq3.cell 2 rfl
  have rq3_3 := rq3.cell 3 rfl
  have rq3_4 := rq3.frozen 0
  have rq3_5 := rq3.frozen 1
  have rq3_6 := rq3.frozen 2
  have rq3_7 := rq3.frozen 3
  have rq3l := rq3.lt
  clear hb3c hb3f
  go_wp2_with fail
  obtain ⟨gn, hgn⟩ : ∃ gn, gn = w3.heap.size := ⟨_, rfl⟩
  refine calls_named (fun W => Bk W (w.heap.size) 26 [.bool b, .int .u64 x1, .int .u64 x0, .int .i64 s] ∧ Bk W (w.heap.size + 1) 26 [.bool false, .int .u64 0, .int .u64 0, .int .i64 0] ∧ Bk W w3.heap.size 26 [.bool n0, .int .u64 n1, .int .u64 n2, .int .i64 n3] ∧ Below w.heap.size w W) ⟨?h0, ?h1, ?h2, ?h3⟩ ?_
  case h0 => ((repeat (first | (with_reducible assumption) | ((with_reducible refine Bk.new_ ?_); (first | rfl | (simp only [World.size_alloc, World.size_setCell, World.size_drew, World.heap_drewN]; done))) | (with_reducible refine Bk.alloc ?_ _) | (with_reducible refine Bk.drew ?_) | (with_reducible refine Bk.drewN ?_ _) | ((with_reducible refine Bk.far ?_ ?_ _); rotate_left; focus (simp only []; omega)) | ((with_reducible refine Bk.below ?_ (by with_reducible assumption) ?_); rotate_left; focus (go_size; done)))); done)
  case h1 => ((repeat (first | (with_reducible assumption) | ((with_reducible refine Bk.new_ ?_); (first | rfl | (simp only [World.size_alloc, World.size_setCell, World.size_drew, World.heap_drewN]; done))) | (with_reducible refine Bk.alloc ?_ _) | (with_reducible refine Bk.drew ?_) | (with_reducible refine Bk.drewN ?_ _) | ((with_reducible refine Bk.far ?_ ?_ _); rotate_left; focus (simp only []; omega)) | ((with_reducible refine Bk.below ?_ (by with_reducible assumption) ?_); rotate_left; focus (go_size; done)))); done)
  case h2 => ((repeat (first | (with_reducible assumption) | ((with_reducible refine Bk.new_ ?_); (first | rfl | (simp only [World.size_alloc, World.size_setCell, World.size_drew, World.heap_drewN]; done))) | (with_reducible refine Bk.alloc ?_ _) | (with_reducible refine Bk.drew ?_) | (with_reducible refine Bk.drewN ?_ _) | ((with_reducible refine Bk.far ?_ ?_ _); rotate_left; focus (simp only []; omega)) | ((with_reducible refine Bk.below ?_ (by with_reducible assumption) ?_); rotate_left; focus (go_size; done)))); done)
  case h3 => ((repeat' (first | (with_reducible exact Below.refl _ _) | (with_reducible assumption) | (with_reducible refine Below.drew ?_) | (with_reducible refine below_drewN ?_ _) | ((with_reducible refine Below.alloc ?_ ?_ _); rotate_left; focus (go_size; done)) | ((with_reducible refine Below.setCell ?_ ?_ _); rotate_left; focus (go_size; done)) | ((with_reducible refine Below.trans ?_ (Below.mono (by with_reducible assumption) ?_)); rotate_left; focus (go_size; done)))); done)
  clear aq3_0 aq3_1 aq3_2 aq3_3 aq3_4 aq3_5 aq3_6 aq3_7
  clear rq3_0 rq3_1 rq3_2 rq3_3 rq3_4 rq3_5 rq3_6 rq3_7
  rw [← hgn]
  have gn_a : w.heap.size < gn := by omega
  have gn_r : w.heap.size + 1 < gn := by omega
  clear hgn
  try clear hb3 hb3s
  try clear aq3 aq3l
  try clear rq3 rq3l
  try clear kal
  try clear krl
  try clear ka
  try clear kr
  try clear kw
  rintro W3 ⟨ka, kr, kn, kw⟩
  have kal := ka.lt
  have krl := kr.lt
  have knl := kn.lt
  refine (K4.out _).mono ?_
  rintro _ w4 ⟨rfl, hb4⟩; have hb4s := hb4.size; (try simp only [World.size_alloc, World.size_setCell, World.size_drew, World.heap_drewN] at hb4s); obtain ⟨hb4c, hb4f⟩ := bcell hb4; (try have : w.heap.size < w4.heap.size := by omega); (try have : w.heap.size + 1 < w4.heap.size := by omega); (try have : w.heap.size + 1 + 1 < w4.heap.size := by omega); (try have : w.heap.size + 1 + 1 + 1 < w4.heap.size := by omega)
  have aq4 : Bk w4 (w.heap.size) 26 [.bool b, .int .u64 x1, .int .u64 x0, .int .i64 s] := by (repeat (first | (with_reducible assumption) | ((with_reducible refine Bk.new_ ?_); (first | rfl | (simp only [World.size_alloc, World.size_setCell, World.size_drew, World.heap_drewN]; done))) | (with_reducible refine Bk.alloc ?_ _) | (with_reducible refine Bk.drew ?_) | (with_reducible refine Bk.drewN ?_ _) | ((with_reducible refine Bk.far ?_ ?_ _); rotate_left; focus (simp only []; omega)) | ((with_reducible refine Bk.below ?_ (by with_reducible assumption) ?_); rotate_left; focus (go_size; done))))
  have aq4_0 := aq4.cell 0 rfl
  have aq4_1 := aq4.cell 1 rfl
  have aq4_2 := aq4.cell 2 rfl
  have aq4_3 := aq4.cell 3 rfl
  have aq4_4 := aq4.frozen 0
  have aq4_5 := aq4.frozen 1
  have aq4_6 := aq4.frozen 2
  have aq4_7 := aq4.frozen 3
  have aq4l := aq4.lt
  have rq4 : Bk w4 (w.heap.size + 1) 26 [.bool false, .int .u64 0, .int .u64 0, .int .i64 0] := by (repeat (first | (with_reducible assumption) | ((with_reducible refine Bk.new_ ?_); (first | rfl | (simp only [World.size_alloc, World.size_setCell, World.size_drew, World.heap_drewN]; done))) | (with_reducible refine Bk.alloc ?_ _) | (with_reducible refine Bk.drew ?_) | (with_reducible refine Bk.drewN ?_ _) | ((with_reducible refine Bk.far ?_ ?_ _); rotate_left; focus (simp only []; omega)) | ((with_reducible refine Bk.below ?_ (by with_reducible assumption) ?_); rotate_left; focus (go_size; done))))
  have rq4_0 := rq4.cell 0 rfl
  have rq4_1 := rq4.cell 1 rfl
  have rq4_2 := rq4.cell 2 rfl
  have rq4_3 := rq4.cell 3 rfl
  have rq4_4 := rq4.frozen 0
  have rq4_5 := rq4.frozen 1
  have rq4_6 := rq4.frozen 2
  have rq4_7 := rq4.frozen 3
  have rq4l := rq4.lt
  have nq4 : Bk w4 (gn) 26 [.bool n0, .int .u64 n1, .int .u64 n2, .int .i64 n3] := by (repeat (first | (with_reducible assumption) | ((with_reducible refine Bk.new_ ?_); (first | rfl | (simp only [World.size_alloc, World.size_setCell, World.size_drew, World.heap_drewN]; done))) | (with_reducible refine Bk.alloc ?_ _) | (with_reducible refine Bk.drew ?_) | (with_reducible refine Bk.drewN ?_ _) | ((with_reducible refine Bk.far ?_ ?_ _); rotate_left; focus (simp only []; omega)) | ((with_reducible refine Bk.below ?_ (by with_reducible assumption) ?_); rotate_left; focus (go_size; done))))
  have nq4_0 := nq4.cell 0 rfl
  have nq4_1 := nq4.cell 1 rfl
  have nq4_2 := nq4.cell 2 rfl
  have nq4_3 := nq4.cell 3 rfl
  have nq4_4 := nq4.frozen 0
  have nq4_5 := nq4.frozen 1
  have nq4_6 := nq4.frozen 2
  have nq4_7 := nq4.frozen 3
  have nq4l := nq4.lt
  clear hb4c hb4f
  go_wp2_with fail
  refine bodyPost_ret (by simp [results, Try.results33, go_sem, *]; try rfl) rfl ?_
  exact ⟨rfl, by (repeat' (first | (with_reducible exact Below.refl _ _) | (with_reducible assumption) | (with_reducible refine Below.drew ?_) | (with_reducible refine below_drewN ?_ _) | ((with_reducible refine Below.alloc ?_ ?_ _); rotate_left; focus (go_size; done)) | ((with_reducible refine Below.setCell ?_ ?_ _); rotate_left; focus (go_size; done)) | ((with_reducible refine Below.trans ?_ (Below.mono (by with_reducible assumption) ?_)); rotate_left; focus (go_size; done))))⟩
set_option maxHeartbeats 2000000 in
theorem docnext_bad (b : Bool) (c : Nat) (s : Int) (hc : c < 2 ^ 128) (h : dform b c s = false) (w : World) : Calls Try.prog 30 #[.agg #[.bool b, .int .u64 (wd (c) 1), .int .u64 (wd (c) 0), .int .i64 s]] w fun e w' => e = .returned (.tuple #[.agg #[.bool false, .int .u64 0, .int .u64 0, .int .i64 0], .int .i64 2]) ∧ Below w.heap.size w w' := by
  have HF := Lib.hid (fun W => rform_any b c s hc W)
  rw [h] at HF
  generalize wd c 0 = x0 at *
  generalize wd c 1 = x1 at *
  clear hc h
  go_enter Try.func30, Try.ntmps30
  go_wp2_with fail
  refine (HF.out _).mono ?_
  rintro _ w1 ⟨rfl, hb1⟩; have hb1s := hb1.size; (try simp only [World.size_alloc, World.size_setCell, World.size_drew, World.heap_drewN] at hb1s); obtain ⟨hb1c, hb1f⟩ := bcell hb1; (try have : w.heap.size < w1.heap.size := by omega); (try have : w.heap.size + 1 < w1.heap.size := by omega); (try have : w.heap.size + 1 + 1 < w1.heap.size := by omega); (try have : w.heap.size + 1 + 1 + 1 < w1.heap.size := by omega)
  have r0 : Bk w1 (w.heap.size + 1) 26 [.bool false, .int .u64 0, .int .u64 0, .int .i64 0] := by (repeat (first | (with_reducible assumption) | ((with_reducible refine Bk.new_ ?_); (first | rfl | (simp only [World.size_alloc, World.size_setCell, World.size_drew, World.heap_drewN]; done))) | (with_reducible refine Bk.alloc ?_ _) | (with_reducible refine Bk.drew ?_) | (with_reducible refine Bk.drewN ?_ _) | ((with_reducible refine Bk.far ?_ ?_ _); rotate_left; focus (simp only []; omega)) | ((with_reducible refine Bk.below ?_ (by with_reducible assumption) ?_); rotate_left; focus (go_size; done))))
  have r0_0 := r0.cell 0 rfl
  have r0_1 := r0.cell 1 rfl
  have r0_2 := r0.cell 2 rfl
  have r0_3 := r0.cell 3 rfl
  have r0_4 := r0.frozen 0
  have r0_5 := r0.frozen 1
  have r0_6 := r0.frozen 2
  have r0_7 := r0.frozen 3
  have r0l := r0.lt
  clear hb1c hb1f r0
  go_wp2_with fail
  refine bodyPost_ret (by simp [results, Try.results30, go_sem, *]; try rfl) rfl ?_
  exact ⟨rfl, by (repeat' (first | (with_reducible exact Below.refl _ _) | (with_reducible assumption) | (with_reducible refine Below.drew ?_) | (with_reducible refine below_drewN ?_ _) | ((with_reducible refine Below.alloc ?_ ?_ _); rotate_left; focus (go_size; done)) | ((with_reducible refine Below.setCell ?_ ?_ _); rotate_left; focus (go_size; done)) | ((with_reducible refine Below.trans ?_ (Below.mono (by with_reducible assumption) ?_)); rotate_left; focus (go_size; done))))⟩
set_option maxHeartbeats 2000000 in
theorem docprev_bad (b : Bool) (c : Nat) (s : Int) (hc : c < 2 ^ 128) (h : dform b c s = false) (w : World) : Calls Try.prog 32 #[.agg #[.bool b, .int .u64 (wd (c) 1), .int .u64 (wd (c) 0), .int .i64 s]] w fun e w' => e = .returned (.tuple #[.agg #[.bool false, .int .u64 0, .int .u64 0, .int .i64 0], .int .i64 2]) ∧ Below w.heap.size w w' := by
  have HF := Lib.hid (fun W => rform_any b c s hc W)
  rw [h] at HF
  generalize wd c 0 = x0 at *
  generalize wd c 1 = x1 at *
  clear hc h
  go_enter Try.func32, Try.ntmps32
  go_wp2_with fail
  refine (HF.out _).mono ?_
  rintro _ w1 ⟨rfl, hb1⟩; have hb1s := hb1.size; (try simp only [World.size_alloc, World.size_setCell, World.size_drew, World.heap_drewN] at hb1s); obtain ⟨hb1c, hb1f⟩ := bcell hb1; (try have : w.heap.size < w1.heap.size := by omega); (try have : w.heap.size + 1 < w1.heap.size := by omega); (try have : w.heap.size + 1 + 1 < w1.heap.size := by omega); (try have : w.heap.size + 1 + 1 + 1 < w1.heap.size := by omega)
  have r0 : Bk w1 (w.heap.size + 1) 26 [.bool false, .int .u64 0, .int .u64 0, .int .i64 0] := by (repeat (first | (with_reducible assumption) | ((with_reducible refine Bk.new_ ?_); (first | rfl | (simp only [World.size_alloc, World.size_setCell, World.size_drew, World.heap_drewN]; done))) | (with_reducible refine Bk.alloc ?_ _) | (with_reducible refine Bk.drew ?_) | (with_reducible refine Bk.drewN ?_ _) | ((with_reducible refine Bk.far ?_ ?_ _); rotate_left; focus (simp only []; omega)) | ((with_reducible refine Bk.below ?_ (by with_reducible assumption) ?_); rotate_left; focus (go_size; done))))
  have r0_0 := r0.cell 0 rfl
  have r0_1 := r0.cell 1 rfl
  have r0_2 := r0.cell 2 rfl
  have r0_3 := r0.cell 3 rfl
  have r0_4 := r0.frozen 0
  have r0_5 := r0.frozen 1
  have r0_6 := r0.frozen 2
  have r0_7 := r0.frozen 3
  have r0l := r0.lt
  clear hb1c hb1f r0
  go_wp2_with fail
  refine bodyPost_ret (by simp [results, Try.results32, go_sem, *]; try rfl) rfl ?_
  exact ⟨rfl, by (repeat' (first | (with_reducible exact Below.refl _ _) | (with_reducible assumption) | (with_reducible refine Below.drew ?_) | (with_reducible refine below_drewN ?_ _) | ((with_reducible refine Below.alloc ?_ ?_ _); rotate_left; focus (go_size; done)) | ((with_reducible refine Below.setCell ?_ ?_ _); rotate_left; focus (go_size; done)) | ((with_reducible refine Below.trans ?_ (Below.mono (by with_reducible assumption) ?_)); rotate_left; focus (go_size; done))))⟩
theorem nbc_lt (r : Nat × Bool) : NbC r < B34 := by
  unfold NbC; split
  · exact (fit_form false _ _).1
  · exact B34_pos
theorem docnext_ok (b : Bool) (c s : Nat) (hc : c < B34) (hs : s ≤ 18) (h : dform b c s = true) (hb : c = 0 → b = false) (w : World) : Calls Try.prog 30 #[.agg #[.bool b, .int .u64 (wd (c) 1), .int .u64 (wd (c) 0), .int .i64 s]] w fun e w' => e = .returned (.tuple #[.agg #[.bool (nextN b c s), .int .u64 (wd ((NbC (nb c s b))) 1), .int .u64 (wd ((NbC (nb c s b))) 0), .int .i64 (NbS (nb c s b))], .int .i64 (NbE (nb c s b))]) ∧ Below w.heap.size w w' := by
  have hc2 := Nat.lt_trans hc B34_lt
  have hf := fun W => rform_any b c s hc2 W
  rw [h] at hf
  have hu := fun W => rup_any b c s b hc hs (fun h0 h1 => by have := hb h1; rw [this] at h0; cases h0) W
  have hC : NbC (nb c s b) < 2 ^ 128 := Nat.lt_trans (nbc_lt _) B34_lt
  unfold nextN
  cases b
  · exact docnext_f _ _ _ _ _ _ _ _ hf hu w
  · exact docnext_t _ _ _ _ _ _ _ _ _ _ _ _ hf hu (fun W => flip_any false _ _ hC W) w
/-- the sign of the next one below -/
def prevN (b : Bool) (c s : Nat) : Bool := sg (!(nextN (sg (!b) c) c s)) (NbC (nb c s (sg (!b) c)))
theorem docprev_ok (b : Bool) (c s : Nat) (hc : c < B34) (hs : s ≤ 18) (h : dform b c s = true) (w : World) : Calls Try.prog 32 #[.agg #[.bool b, .int .u64 (wd (c) 1), .int .u64 (wd (c) 0), .int .i64 s]] w fun e w' => e = .returned (.tuple #[.agg #[.bool (prevN b c s), .int .u64 (wd ((NbC (nb c s (sg (!b) c)))) 1), .int .u64 (wd ((NbC (nb c s (sg (!b) c)))) 0), .int .i64 (NbS (nb c s (sg (!b) c)))], .int .i64 (NbE (nb c s (sg (!b) c)))]) ∧ Below w.heap.size w w' := by
  have hc2 := Nat.lt_trans hc B34_lt
  have hf := fun W => rform_any b c s hc2 W
  rw [h] at hf
  have hC : NbC (nb c s (sg (!b) c)) < 2 ^ 128 := Nat.lt_trans (nbc_lt _) B34_lt
  exact docprev_w _ _ _ _ _ _ _ _ _ _ _ _ _ _ _ _ _ hf (fun W => flip_any b c s hc2 W) (fun W => docnext_ok (sg (!b) c) c s hc hs (dform_turn h) (fun h0 => by rw [h0, sg_zero]) W) (fun W => flip_any _ _ _ hC W) w
theorem prev_ok (b : Bool) (c s : Nat) (hc : c < B34) (hs : s ≤ 18) (h : dform b c s = true) (w : World) : Calls Try.prog 33 #[.agg #[.bool b, .int .u64 (wd (c) 1), .int .u64 (wd (c) 0), .int .i64 s]] w fun e w' => e = .returned (.tuple #[.agg #[.bool (prevN b c s), .int .u64 (wd ((NbC (nb c s (sg (!b) c)))) 1), .int .u64 (wd ((NbC (nb c s (sg (!b) c)))) 0), .int .i64 (NbS (nb c s (sg (!b) c)))], .int .i64 (NbE (nb c s (sg (!b) c)))]) ∧ Below w.heap.size w w' := by
  have hc2 := Nat.lt_trans hc B34_lt
  have hf := fun g W hg => formed_one b c s hc2 g W hg
  rw [h] at hf
  have hC : NbC (nb c s (sg (!b) c)) < 2 ^ 128 := Nat.lt_trans (nbc_lt _) B34_lt
  exact prev_w _ _ _ _ _ _ _ _ _ _ _ _ _ _ _ _ _ hf (fun W => turned_any b c s hc2 W) (fun W => next_ok (sg (!b) c) c s hc hs (dform_turn h) (fun h0 => by rw [h0, sg_zero]) W) (fun W => turned_any _ _ _ hC W) w
end Go.Proofs.Ythkgjodidkpaeaa

set_option linter.unusedSimpArgs false
set_option linter.unusedVariables false
namespace Go.Proofs.Ythkgjodidkpaeaa
open Go.RowKit

theorem nb_some {c s : Nat} {down : Bool} {Y : Nat} (h : upK (unit c s) down 19 = (Y, true)) : NbC (nb c s down) = FitC Y (10 ^ 18) ∧ NbS (nb c s down) = FitS Y (10 ^ 18) ∧ NbE (nb c s down) = FitE Y (10 ^ 18) := by
  unfold nb; rw [K19_eq, h]; exact nb_yes Y
theorem nb_none {c s : Nat} {down : Bool} (h : upK (unit c s) down 19 = (0, false)) : NbC (nb c s down) = 0 ∧ NbS (nb c s down) = 0 ∧ NbE (nb c s down) = 3 := by
  unfold nb; rw [K19_eq, h]; exact nb_no 0
theorem fit_parts {Y : Nat} (h : Rep Y) : ∃ C S, FitC Y (10 ^ 18) = C ∧ FitS Y (10 ^ 18) = S ∧ FitE Y (10 ^ 18) = 0 ∧ C < B34 ∧ S ≤ 18 ∧ unit C S = Y ∧ (C = 0 → S = 0) ∧ (S = 0 ∨ C % 10 ≠ 0) := by
  obtain ⟨e1, e2⟩ := fit_rep h
  obtain ⟨f1, f2, f3, f4⟩ := fit_form false Y (10 ^ 18)
  exact ⟨_, _, rfl, rfl, e1, f1, f2, e2, fun h => (f3 h).2, f4⟩
theorem fit_unit {c s : Nat} (hc : c < B34) (hs : s ≤ 18) (f3 : c = 0 → s = 0) (f4 : s = 0 ∨ c % 10 ≠ 0) : FitC (unit c s) (10 ^ 18) = c ∧ FitS (unit c s) (10 ^ 18) = s ∧ FitE (unit c s) (10 ^ 18) = 0 := by
  obtain ⟨C, S, e1, e2, e3, g1, g2, g3, g4, g5⟩ := fit_parts (rep_unit hc hs)
  obtain ⟨h1, h2⟩ := unit_inj g2 hs g3 g4 g5 f3 f4
  exact ⟨e1.trans h1, e2.trans h2, e3⟩
theorem form_of {b : Bool} {c s : Nat} (h1 : c < B34) (h2 : s ≤ 18) (h3 : c = 0 → s = 0) (h4 : s = 0 ∨ c % 10 ≠ 0) : dform (sg b c) c s = true :=
  (dform_iff _ _ _).2 ⟨s, rfl, h1, h2, fun h => ⟨by rw [h, sg_zero], h3 h⟩, h4⟩
theorem sg_turn (b : Bool) (c : Nat) : sg (!(sg b c)) c = sg (!b) c := by
  by_cases h : c = 0
  · rw [h, sg_zero, sg_zero]
  · rw [sg_pos h, sg_pos h, sg_pos h]
theorem sg_false (c : Nat) : sg false c = false := rfl
theorem ord_dec {b b' : Bool} {c s c' s' : Nat} (h1 : c = 0 → b = false) (h2 : c' = 0 → b' = false) : ordD b (unit c s) b' (unit c' s') = ordS (sval b (unit c s)) (sval b' (unit c' s')) :=
  ordD_sval (fun h => h1 (unit_nil.1 h)) (fun h => h2 (unit_nil.1 h))
end Go.Proofs.Ythkgjodidkpaeaa

set_option linter.unusedSimpArgs false
set_option linter.unusedVariables false
namespace Go.Proofs.Ythkgjodidkpaeaa
open Go.RowKit
set_option maxRecDepth 100000 in
theorem open_long {H : Type} {enc : TypeId × Value → H} {W : World} {base b0 : Nat} {v : Value} {d : DataW H} {p : List MemPlace} {sp : Nat → Bool} {held : Bool}
    (hv : Value.okWide Try.prog W .any base 45 v) (h : DataW.Trod enc Try.prog W b0 sp held 45 v d p) :
    ∃ a0 a1 a2 a3 : Int, v = .agg #[.int .u64 a0, .int .u64 a1, .int .u64 a2, .int .u64 a3] ∧ (Lit.int .u64 a0).wf = true ∧ (Lit.int .u64 a1).wf = true ∧ (Lit.int .u64 a2).wf = true ∧ (Lit.int .u64 a3).wf = true := by
  obtain ⟨cs, rfl, hsz, _⟩ : ∃ cs, v = .agg cs ∧ cs.size = Try.prog.cellsOf 45 ∧ Row.okWide Try.prog W .any base 45 cs := by
    simpa [Value.okWide, Try.underlying45] using hv
  have hc : Try.prog.cellsOf 45 = 4 := by kernel_rfl
  have hce : Try.prog.cellsOf 22 = 1 := by kernel_rfl
  obtain ⟨c0, c1, c2, c3, rfl⟩ := Joins.array4 (hsz.trans hc)
  obtain ⟨fuel, hf⟩ := h
  obtain ⟨y0, y1, y2, y3, m, _, hy0, hy1, hy2, hy3⟩ := Go.ChangeShapes.trod_array4 Try.underlying45 hce hf
  obtain ⟨x0, e0, _, w0⟩ := DataW.trod_int Try.underlying22 hy0
  obtain ⟨x1, e1, _, w1⟩ := DataW.trod_int Try.underlying22 hy1
  obtain ⟨x2, e2, _, w2⟩ := DataW.trod_int Try.underlying22 hy2
  obtain ⟨x3, e3, _, w3⟩ := DataW.trod_int Try.underlying22 hy3
  simp at e0 e1 e2 e3
  subst e0 e1 e2 e3
  exact ⟨x0, x1, x2, x3, rfl, w0, w1, w2, w3⟩
/-- a word's bounds -/
theorem wf_word {a : Int} (h : (Lit.int .u64 a).wf = true) : 0 ≤ a ∧ a < 18446744073709551616 := by
  have := bounds_u64 h; omega
end Go.Proofs.Ythkgjodidkpaeaa

set_option linter.unusedSimpArgs false
set_option linter.unusedVariables false
namespace Go.Proofs.Ythkgjodidkpaeaa
open Go.RowKit

set_option maxRecDepth 100000 in
theorem eq_dec (b : Bool) (x y s : Int) (b' : Bool) (x' y' s' : Int) (W : World) : (binOp .eql 26 (.agg #[.bool b, .int .u64 x, .int .u64 y, .int .i64 s]) (.agg #[.bool b', .int .u64 x', .int .u64 y', .int .i64 s'])).run Try.prog W = .ok (.bool ((b == b') && ((x == x') && ((y == y') && (s == s'))))) W := by
  go_simp
  by_cases h0 : b = b' <;> by_cases h1 : x = x' <;> by_cases h2 : y = y' <;> by_cases h3 : s = s' <;> simp [h0, h1, h2, h3]
set_option maxRecDepth 100000 in
theorem neq_dec (b : Bool) (x y s : Int) (b' : Bool) (x' y' s' : Int) (W : World) : (binOp .neq 26 (.agg #[.bool b, .int .u64 x, .int .u64 y, .int .i64 s]) (.agg #[.bool b', .int .u64 x', .int .u64 y', .int .i64 s'])).run Try.prog W = .ok (.bool (!((b == b') && ((x == x') && ((y == y') && (s == s')))))) W := by
  go_simp
  by_cases h0 : b = b' <;> by_cases h1 : x = x' <;> by_cases h2 : y = y' <;> by_cases h3 : s = s' <;> simp [h0, h1, h2, h3]
theorem fit_exact {n t : Nat} (h : n < B34) (ht : t ≤ 18) : FitC n (10 ^ t) = stripC n t ∧ FitS n (10 ^ t) = stripS n t ∧ FitE n (10 ^ t) = 0 := by
  have e := near_high n t 0
  rw [Nat.add_zero, Nat.pow_zero, Nat.mul_one] at e
  unfold FitC FitS FitE
  rw [fit_top n t ht, fitK_yes (by rw [e]; exact h), e]
  exact ⟨rfl, rfl, rfl⟩
theorem kn_add (W : World) : Calls Try.prog 15 #[.agg #[.bool false, .int .u64 0, .int .u64 1, .int .i64 1], .agg #[.bool false, .int .u64 0, .int .u64 2, .int .i64 1]] W fun e w' => e = .returned (.tuple #[.agg #[.bool false, .int .u64 0, .int .u64 3, .int .i64 1], .int .i64 0]) ∧ Below W.heap.size W w' := by
  have hB : (3 : Nat) < B34 := by unfold B34; decide
  have h := add_ok false 1 1 false 2 1 ((dform_iff _ _ _).2 ⟨1, rfl, by omega, by decide, fun h => absurd h (by decide), .inr (by decide)⟩) ((dform_iff _ _ _).2 ⟨1, rfl, by omega, by decide, fun h => absurd h (by decide), .inr (by decide)⟩) (by omega) (by omega) (by decide) (by decide) W
  obtain ⟨e1, e2, e3, e4⟩ := add_units false false 1 2 1 1 1 (by decide) (by decide) rfl
  rw [e1, e2, e3, e4] at h
  obtain ⟨s1, s2⟩ := sgn_same (b := false) (b' := false) (x := 1 * 10 ^ (1 - 1)) (y := 2 * 10 ^ (1 - 1)) rfl
  rw [s1, s2] at h
  obtain ⟨f1, f2, f3⟩ := fit_exact (n := 3) (t := 1) hB (by decide)
  obtain ⟨g1, g2⟩ := strip_no (c := 3) (by decide) 1
  rw [g1] at f1
  rw [g2] at f2
  have e : 1 * 10 ^ (1 - 1) + 2 * 10 ^ (1 - 1) = 3 := by decide
  rw [e, f1, f2, f3] at h
  have a0 : wd 1 0 = 1 := by rw [wd0]; rfl
  have a1 : wd 1 1 = 0 := by rw [wd1]; rfl
  have b0 : wd 2 0 = 2 := by rw [wd0]; rfl
  have b1 : wd 2 1 = 0 := by rw [wd1]; rfl
  have c0 : wd 3 0 = 3 := by rw [wd0]; rfl
  have c1 : wd 3 1 = 0 := by rw [wd1]; rfl
  rw [a0, a1, b0, b1, c0, c1, sg_pos (by decide)] at h
  exact h
set_option maxHeartbeats 1000000 in
theorem known_any (w : World) : Calls Try.prog 11 #[] w fun e w' => e = .returned (.bool true) ∧ Below w.heap.size w w' := by
  have q : ∀ W, (binOp .eql 26 (.agg #[.bool false, .int .u64 0, .int .u64 3, .int .i64 1]) (.agg #[.bool false, .int .u64 0, .int .u64 3, .int .i64 1])).run Try.prog W = .ok (.bool true) W := fun W => eq_dec _ _ _ _ _ _ _ _ W
  go_enter Try.func11, Try.ntmps11
  go_wp2_with fail
  refine (kn_add _).mono ?_
  rintro _ w1 ⟨rfl, hb1⟩; have hb1s := hb1.size; (try simp only [World.size_alloc, World.size_setCell, World.size_drew, World.heap_drewN] at hb1s); obtain ⟨hb1c, hb1f⟩ := bcell hb1; (try have : w.heap.size < w1.heap.size := by omega); (try have : w.heap.size + 1 < w1.heap.size := by omega); (try have : w.heap.size + 1 + 1 < w1.heap.size := by omega); (try have : w.heap.size + 1 + 1 + 1 < w1.heap.size := by omega)
  go_wp2_with fail
  go_ret
  exact ⟨rfl, by (repeat' (first | (with_reducible exact Below.refl _ _) | (with_reducible assumption) | (with_reducible refine Below.drew ?_) | (with_reducible refine below_drewN ?_ _) | ((with_reducible refine Below.alloc ?_ ?_ _); rotate_left; focus (go_size; done)) | ((with_reducible refine Below.setCell ?_ ?_ _); rotate_left; focus (go_size; done)) | ((with_reducible refine Below.trans ?_ (Below.mono (by with_reducible assumption) ?_)); rotate_left; focus (go_size; done))))⟩
set_option maxRecDepth 100000 in
theorem open_dec {H : Type} {enc : TypeId × Value → H} {W : World} {base b0 : Nat} {v : Value} {d : DataW H} {p : List MemPlace} {sp : Nat → Bool} {held : Bool}
    (hv : Value.okWide Try.prog W .any base 26 v) (h : DataW.Trod enc Try.prog W b0 sp held 26 v d p) :
    ∃ (b : Bool) (a0 a1 a2 : Int), v = .agg #[.bool b, .int .u64 a0, .int .u64 a1, .int .i64 a2] ∧ (Lit.int .u64 a0).wf = true ∧ (Lit.int .u64 a1).wf = true ∧ (Lit.int .i64 a2).wf = true := by
  obtain ⟨cs, rfl, hsz⟩ := Go.WideShapes.okWide_struct Try.underlying26 hv
  have hc : Try.prog.cellsOf 26 = 4 := by kernel_rfl
  obtain ⟨c0, c1, c2, c3, rfl⟩ := Joins.array4 (hsz.trans hc)
  obtain ⟨fuel, hf⟩ := h
  obtain ⟨xs, n, _, hx, _, hlen, hg⟩ := DataW.trod_struct Try.underlying26 hf
  have n0 : Try.prog.cellsOf 4 = 1 := by kernel_rfl
  have n1 : Try.prog.cellsOf 24 = 2 := by kernel_rfl
  have n2 : Try.prog.cellsOf 3 = 1 := by kernel_rfl
  have n3 : Try.prog.cellsOf 22 = 1 := by kernel_rfl
  have g0 := hg 0 _ rfl
  have g1 := hg 1 _ rfl
  have g2 := hg 2 _ rfl
  clear hg hf hx
  match xs, hlen with
  | [y0, y1, y2], _ =>
    simp only [List.getElem_toArray, List.getElem_cons_zero, List.getElem_cons_succ, n0, n1, n2] at g0 g1 g2
    simp [Value.cells] at g0 g1 g2
    obtain ⟨b, e0, _⟩ := DataW.trod_bool Try.underlying4 g0
    obtain ⟨z2, e2, _, w2⟩ := DataW.trod_int Try.underlying3 g2
    obtain ⟨ys, n', _, _, _, hlen2, hg2⟩ := DataW.trod_struct Try.underlying24 g1
    have k0 := hg2 0 _ rfl
    have k1 := hg2 1 _ rfl
    match ys, hlen2 with
    | [q0, q1], _ =>
      simp only [List.getElem_toArray, List.getElem_cons_zero, List.getElem_cons_succ, n3] at k0 k1
      simp at k0 k1
      obtain ⟨z0, f0, _, v0⟩ := DataW.trod_int Try.underlying22 k0
      obtain ⟨z1, f1, _, v1⟩ := DataW.trod_int Try.underlying22 k1
      simp at e0 e2 f0 f1
      subst e0 e2 f0 f1
      exact ⟨b, z0, z1, z2, rfl, v0, v1, w2⟩
end Go.Proofs.Ythkgjodidkpaeaa

set_option linter.unusedSimpArgs false
set_option linter.unusedVariables false
namespace Go.Proofs.Ythkgjodidkpaeaa
open Go.RowKit

set_option maxRecDepth 100000 in
set_option maxHeartbeats 8000000 in
theorem between_bad (b : Bool) (x1 x0 s : Int) (b' : Bool) (y1 y0 s' : Int)
    (H1 : ∀ W, Calls Try.prog 31 #[.agg #[.bool b, .int .u64 x1, .int .u64 x0, .int .i64 s]] W fun e w' => e = .returned (.tuple #[.agg #[.bool false, .int .u64 0, .int .u64 0, .int .i64 0], .int .i64 2]) ∧ Below W.heap.size W w')
    (H2 : ∀ W, Calls Try.prog 13 #[.agg #[.bool b, .int .u64 x1, .int .u64 x0, .int .i64 s]] W fun e w' => e = .returned (.bool false) ∧ Below W.heap.size W w')
    (w : World) : Calls Try.prog 7 #[.agg #[.bool b, .int .u64 x1, .int .u64 x0, .int .i64 s], .agg #[.bool b', .int .u64 y1, .int .u64 y0, .int .i64 s']] w fun e w' => e = .returned (.bool true) ∧ Below w.heap.size w w' := by
  have K1 := Lib.hid H1
  have K2 := Lib.hid H2
  clear H1 H2
  have r1 : ∀ W, (binOp .eql 26 (.agg #[.bool false, .int .u64 0, .int .u64 0, .int .i64 0]) (.agg #[.bool false, .int .u64 0, .int .u64 0, .int .i64 0])).run Try.prog W = .ok (.bool true) W := fun W => by rw [eq_dec]; simp
  go_enter Try.func7, Try.ntmps7
  go_wp2_with fail
  refine (known_any _).mono ?_
  rintro _ w1 ⟨rfl, hb1⟩; have hb1s := hb1.size; (try simp only [World.size_alloc, World.size_setCell, World.size_drew, World.heap_drewN] at hb1s); obtain ⟨hb1c, hb1f⟩ := bcell hb1; (try have : w.heap.size < w1.heap.size := by omega); (try have : w.heap.size + 1 < w1.heap.size := by omega); (try have : w.heap.size + 1 + 1 < w1.heap.size := by omega); (try have : w.heap.size + 1 + 1 + 1 < w1.heap.size := by omega)
  have aq1 : Bk w1 (w.heap.size) 26 [.bool b, .int .u64 x1, .int .u64 x0, .int .i64 s] := by (repeat (first | (with_reducible assumption) | ((with_reducible refine Bk.new_ ?_); (first | rfl | (simp only [World.size_alloc, World.size_setCell, World.size_drew, World.heap_drewN]; done))) | (with_reducible refine Bk.alloc ?_ _) | (with_reducible refine Bk.drew ?_) | (with_reducible refine Bk.drewN ?_ _) | ((with_reducible refine Bk.far ?_ ?_ _); rotate_left; focus (simp only []; omega)) | ((with_reducible refine Bk.below ?_ (by with_reducible assumption) ?_); rotate_left; focus (go_size; done))))
  have aq1_0 := aq1.cell 0 rfl
  have aq1_1 := aq1.cell 1 rfl
  have aq1_2 := aq1.cell 2 rfl
  have aq1_3 := aq1.cell 3 rfl
  have aq1_4 := aq1.frozen 0
  have aq1_5 := aq1.frozen 1
  have aq1_6 := aq1.frozen 2
  have aq1_7 := aq1.frozen 3
  have aq1l := aq1.lt
  have cq1 : Bk w1 (w.heap.size + 1) 26 [.bool b', .int .u64 y1, .int .u64 y0, .int .i64 s'] := by (repeat (first | (with_reducible assumption) | ((with_reducible refine Bk.new_ ?_); (first | rfl | (simp only [World.size_alloc, World.size_setCell, World.size_drew, World.heap_drewN]; done))) | (with_reducible refine Bk.alloc ?_ _) | (with_reducible refine Bk.drew ?_) | (with_reducible refine Bk.drewN ?_ _) | ((with_reducible refine Bk.far ?_ ?_ _); rotate_left; focus (simp only []; omega)) | ((with_reducible refine Bk.below ?_ (by with_reducible assumption) ?_); rotate_left; focus (go_size; done))))
  have cq1_0 := cq1.cell 0 rfl
  have cq1_1 := cq1.cell 1 rfl
  have cq1_2 := cq1.cell 2 rfl
  have cq1_3 := cq1.cell 3 rfl
  have cq1_4 := cq1.frozen 0
  have cq1_5 := cq1.frozen 1
  have cq1_6 := cq1.frozen 2
  have cq1_7 := cq1.frozen 3
  have cq1l := cq1.lt
  clear hb1c hb1f
  go_wp2_with fail
  refine calls_named (fun W => Bk W (w.heap.size) 26 [.bool b, .int .u64 x1, .int .u64 x0, .int .i64 s] ∧ Bk W (w.heap.size + 1) 26 [.bool b', .int .u64 y1, .int .u64 y0, .int .i64 s'] ∧ Below w.heap.size w W) ⟨?h0, ?h1, ?h2⟩ ?_
  case h0 => ((repeat (first | (with_reducible assumption) | ((with_reducible refine Bk.new_ ?_); (first | rfl | (simp only [World.size_alloc, World.size_setCell, World.size_drew, World.heap_drewN]; done))) | (with_reducible refine Bk.alloc ?_ _) | (with_reducible refine Bk.drew ?_) | (with_reducible refine Bk.drewN ?_ _) | ((with_reducible refine Bk.far ?_ ?_ _); rotate_left; focus (simp only []; omega)) | ((with_reducible refine Bk.below ?_ (by with_reducible assumption) ?_); rotate_left; focus (go_size; done)))); done)
  case h1 => ((repeat (first | (with_reducible assumption) | ((with_reducible refine Bk.new_ ?_); (first | rfl | (simp only [World.size_alloc, World.size_setCell, World.size_drew, World.heap_drewN]; done))) | (with_reducible refine Bk.alloc ?_ _) | (with_reducible refine Bk.drew ?_) | (with_reducible refine Bk.drewN ?_ _) | ((with_reducible refine Bk.far ?_ ?_ _); rotate_left; focus (simp only []; omega)) | ((with_reducible refine Bk.below ?_ (by with_reducible assumption) ?_); rotate_left; focus (go_size; done)))); done)
  case h2 => ((repeat' (first | (with_reducible exact Below.refl _ _) | (with_reducible assumption) | (with_reducible refine Below.drew ?_) | (with_reducible refine below_drewN ?_ _) | ((with_reducible refine Below.alloc ?_ ?_ _); rotate_left; focus (go_size; done)) | ((with_reducible refine Below.setCell ?_ ?_ _); rotate_left; focus (go_size; done)) | ((with_reducible refine Below.trans ?_ (Below.mono (by with_reducible assumption) ?_)); rotate_left; focus (go_size; done)))); done)
  clear aq1_0 aq1_1 aq1_2 aq1_3 aq1_4 aq1_5 aq1_6 aq1_7
  clear cq1_0 cq1_1 cq1_2 cq1_3 cq1_4 cq1_5 cq1_6 cq1_7
  try clear hb1 hb1s
  try clear aq1 aq1l
  try clear cq1 cq1l
  try clear kal
  try clear kcl
  try clear ka
  try clear kc
  try clear kw
  rintro W1 ⟨ka, kc, kw⟩
  have kal := ka.lt
  have kcl := kc.lt
  refine (K1.out _).mono ?_
  rintro _ w2 ⟨rfl, hb2⟩; have hb2s := hb2.size; (try simp only [World.size_alloc, World.size_setCell, World.size_drew, World.heap_drewN] at hb2s); obtain ⟨hb2c, hb2f⟩ := bcell hb2; (try have : w.heap.size < w2.heap.size := by omega); (try have : w.heap.size + 1 < w2.heap.size := by omega); (try have : w.heap.size + 1 + 1 < w2.heap.size := by omega); (try have : w.heap.size + 1 + 1 + 1 < w2.heap.size := by omega)
  have aq2 : Bk w2 (w.heap.size) 26 [.bool b, .int .u64 x1, .int .u64 x0, .int .i64 s] := by (repeat (first | (with_reducible assumption) | ((with_reducible refine Bk.new_ ?_); (first | rfl | (simp only [World.size_alloc, World.size_setCell, World.size_drew, World.heap_drewN]; done))) | (with_reducible refine Bk.alloc ?_ _) | (with_reducible refine Bk.drew ?_) | (with_reducible refine Bk.drewN ?_ _) | ((with_reducible refine Bk.far ?_ ?_ _); rotate_left; focus (simp only []; omega)) | ((with_reducible refine Bk.below ?_ (by with_reducible assumption) ?_); rotate_left; focus (go_size; done))))
  have aq2_0 := aq2.cell 0 rfl
  have aq2_1 := aq2.cell 1 rfl
  have aq2_2 := aq2.cell 2 rfl
  have aq2_3 := aq2.cell 3 rfl
  have aq2_4 := aq2.frozen 0
  have aq2_5 := aq2.frozen 1
  have aq2_6 := aq2.frozen 2
  have aq2_7 := aq2.frozen 3
  have aq2l := aq2.lt
  have cq2 : Bk w2 (w.heap.size + 1) 26 [.bool b', .int .u64 y1, .int .u64 y0, .int .i64 s'] := by (repeat (first | (with_reducible assumption) | ((with_reducible refine Bk.new_ ?_); (first | rfl | (simp only [World.size_alloc, World.size_setCell, World.size_drew, World.heap_drewN]; done))) | (with_reducible refine Bk.alloc ?_ _) | (with_reducible refine Bk.drew ?_) | (with_reducible refine Bk.drewN ?_ _) | ((with_reducible refine Bk.far ?_ ?_ _); rotate_left; focus (simp only []; omega)) | ((with_reducible refine Bk.below ?_ (by with_reducible assumption) ?_); rotate_left; focus (go_size; done))))
  have cq2_0 := cq2.cell 0 rfl
  have cq2_1 := cq2.cell 1 rfl
  have cq2_2 := cq2.cell 2 rfl
  have cq2_3 := cq2.cell 3 rfl
  have cq2_4 := cq2.frozen 0
  have cq2_5 := cq2.frozen 1
  have cq2_6 := cq2.frozen 2
  have cq2_7 := cq2.frozen 3
  have cq2l := cq2.lt
  clear hb2c hb2f
  go_wp2_with fail
  obtain ⟨gn, hgn⟩ : ∃ gn, gn = w2.heap.size := ⟨_, rfl⟩
  refine calls_named (fun W => Bk W (w.heap.size) 26 [.bool b, .int .u64 x1, .int .u64 x0, .int .i64 s] ∧ Bk W (w.heap.size + 1) 26 [.bool b', .int .u64 y1, .int .u64 y0, .int .i64 s'] ∧ Bk W w2.heap.size 26 [.bool false, .int .u64 0, .int .u64 0, .int .i64 0] ∧ Below w.heap.size w W) ⟨?h0, ?h1, ?h2, ?h3⟩ ?_
  case h0 => ((repeat (first | (with_reducible assumption) | ((with_reducible refine Bk.new_ ?_); (first | rfl | (simp only [World.size_alloc, World.size_setCell, World.size_drew, World.heap_drewN]; done))) | (with_reducible refine Bk.alloc ?_ _) | (with_reducible refine Bk.drew ?_) | (with_reducible refine Bk.drewN ?_ _) | ((with_reducible refine Bk.far ?_ ?_ _); rotate_left; focus (simp only []; omega)) | ((with_reducible refine Bk.below ?_ (by with_reducible assumption) ?_); rotate_left; focus (go_size; done)))); done)
  case h1 => ((repeat (first | (with_reducible assumption) | ((with_reducible refine Bk.new_ ?_); (first | rfl | (simp only [World.size_alloc, World.size_setCell, World.size_drew, World.heap_drewN]; done))) | (with_reducible refine Bk.alloc ?_ _) | (with_reducible refine Bk.drew ?_) | (with_reducible refine Bk.drewN ?_ _) | ((with_reducible refine Bk.far ?_ ?_ _); rotate_left; focus (simp only []; omega)) | ((with_reducible refine Bk.below ?_ (by with_reducible assumption) ?_); rotate_left; focus (go_size; done)))); done)
  case h2 => ((repeat (first | (with_reducible assumption) | ((with_reducible refine Bk.new_ ?_); (first | rfl | (simp only [World.size_alloc, World.size_setCell, World.size_drew, World.heap_drewN]; done))) | (with_reducible refine Bk.alloc ?_ _) | (with_reducible refine Bk.drew ?_) | (with_reducible refine Bk.drewN ?_ _) | ((with_reducible refine Bk.far ?_ ?_ _); rotate_left; focus (simp only []; omega)) | ((with_reducible refine Bk.below ?_ (by with_reducible assumption) ?_); rotate_left; focus (go_size; done)))); done)
  case h3 => ((repeat' (first | (with_reducible exact Below.refl _ _) | (with_reducible assumption) | (with_reducible refine Below.drew ?_) | (with_reducible refine below_drewN ?_ _) | ((with_reducible refine Below.alloc ?_ ?_ _); rotate_left; focus (go_size; done)) | ((with_reducible refine Below.setCell ?_ ?_ _); rotate_left; focus (go_size; done)) | ((with_reducible refine Below.trans ?_ (Below.mono (by with_reducible assumption) ?_)); rotate_left; focus (go_size; done)))); done)
  clear aq2_0 aq2_1 aq2_2 aq2_3 aq2_4 aq2_5 aq2_6 aq2_7
  clear cq2_0 cq2_1 cq2_2 cq2_3 cq2_4 cq2_5 cq2_6 cq2_7
  rw [← hgn]
  have gn_a : w.heap.size < gn := by omega
  have gn_c : w.heap.size + 1 < gn := by omega
  clear hgn
  try clear hb2 hb2s
  try clear aq2 aq2l
  try clear cq2 cq2l
  try clear kal
  try clear kcl
  try clear ka
  try clear kc
  try clear kw
  rintro W2 ⟨ka, kc, kn, kw⟩
  have kal := ka.lt
  have kcl := kc.lt
  have knl := kn.lt
  refine (K2.out _).mono ?_
  rintro _ w3 ⟨rfl, hb3⟩; have hb3s := hb3.size; (try simp only [World.size_alloc, World.size_setCell, World.size_drew, World.heap_drewN] at hb3s); obtain ⟨hb3c, hb3f⟩ := bcell hb3; (try have : w.heap.size < w3.heap.size := by omega); (try have : w.heap.size + 1 < w3.heap.size := by omega); (try have : w.heap.size + 1 + 1 < w3.heap.size := by omega); (try have : w.heap.size + 1 + 1 + 1 < w3.heap.size := by omega)
  have aq3 : Bk w3 (w.heap.size) 26 [.bool b, .int .u64 x1, .int .u64 x0, .int .i64 s] := by (repeat (first | (with_reducible assumption) | ((with_reducible refine Bk.new_ ?_); (first | rfl | (simp only [World.size_alloc, World.size_setCell, World.size_drew, World.heap_drewN]; done))) | (with_reducible refine Bk.alloc ?_ _) | (with_reducible refine Bk.drew ?_) | (with_reducible refine Bk.drewN ?_ _) | ((with_reducible refine Bk.far ?_ ?_ _); rotate_left; focus (simp only []; omega)) | ((with_reducible refine Bk.below ?_ (by with_reducible assumption) ?_); rotate_left; focus (go_size; done))))
  have aq3_0 := aq3.cell 0 rfl
  have aq3_1 := aq3.cell 1 rfl
  have aq3_2 := aq3.cell 2 rfl
  have aq3_3 := aq3.cell 3 rfl
  have aq3_4 := aq3.frozen 0
  have aq3_5 := aq3.frozen 1
  have aq3_6 := aq3.frozen 2
  have aq3_7 := aq3.frozen 3
  have aq3l := aq3.lt
  have cq3 : Bk w3 (w.heap.size + 1) 26 [.bool b', .int .u64 y1, .int .u64 y0, .int .i64 s'] := by (repeat (first | (with_reducible assumption) | ((with_reducible refine Bk.new_ ?_); (first | rfl | (simp only [World.size_alloc, World.size_setCell, World.size_drew, World.heap_drewN]; done))) | (with_reducible refine Bk.alloc ?_ _) | (with_reducible refine Bk.drew ?_) | (with_reducible refine Bk.drewN ?_ _) | ((with_reducible refine Bk.far ?_ ?_ _); rotate_left; focus (simp only []; omega)) | ((with_reducible refine Bk.below ?_ (by with_reducible assumption) ?_); rotate_left; focus (go_size; done))))
  have cq3_0 := cq3.cell 0 rfl
  have cq3_1 := cq3.cell 1 rfl
  have cq3_2 := cq3.cell 2 rfl
  have cq3_3 := cq3.cell 3 rfl
  have cq3_4 := cq3.frozen 0
  have cq3_5 := cq3.frozen 1
  have cq3_6 := cq3.frozen 2
  have cq3_7 := cq3.frozen 3
  have cq3l := cq3.lt
  have nq3 : Bk w3 (gn) 26 [.bool false, .int .u64 0, .int .u64 0, .int .i64 0] := by (repeat (first | (with_reducible assumption) | ((with_reducible refine Bk.new_ ?_); (first | rfl | (simp only [World.size_alloc, World.size_setCell, World.size_drew, World.heap_drewN]; done))) | (with_reducible refine Bk.alloc ?_ _) | (with_reducible refine Bk.drew ?_) | (with_reducible refine Bk.drewN ?_ _) | ((with_reducible refine Bk.far ?_ ?_ _); rotate_left; focus (simp only []; omega)) | ((with_reducible refine Bk.below ?_ (by with_reducible assumption) ?_); rotate_left; focus (go_size; done))))
  have nq3_0 := nq3.cell 0 rfl
  have nq3_1 := nq3.cell 1 rfl
  have nq3_2 := nq3.cell 2 rfl
  have nq3_3 := nq3.cell 3 rfl
  have nq3_4 := nq3.frozen 0
  have nq3_5 := nq3.frozen 1
  have nq3_6 := nq3.frozen 2
  have nq3_7 := nq3.frozen 3
  have nq3l := nq3.lt
  clear hb3c hb3f
  go_wp2_with fail
  go_ret
  exact ⟨rfl, by (repeat' (first | (with_reducible exact Below.refl _ _) | (with_reducible assumption) | (with_reducible refine Below.drew ?_) | (with_reducible refine below_drewN ?_ _) | ((with_reducible refine Below.alloc ?_ ?_ _); rotate_left; focus (go_size; done)) | ((with_reducible refine Below.setCell ?_ ?_ _); rotate_left; focus (go_size; done)) | ((with_reducible refine Below.trans ?_ (Below.mono (by with_reducible assumption) ?_)); rotate_left; focus (go_size; done))))⟩
set_option maxRecDepth 100000 in
set_option maxHeartbeats 8000000 in
theorem between_over (x1 x0 s : Int) (b' : Bool) (y1 y0 s' : Int) (n0 : Bool) (n1 n2 n3 : Int) (p0 : Bool) (p1 p2 p3 : Int)
    (H1 : ∀ W, Calls Try.prog 31 #[.agg #[.bool false, .int .u64 x1, .int .u64 x0, .int .i64 s]] W fun e w' => e = .returned (.tuple #[.agg #[.bool n0, .int .u64 n1, .int .u64 n2, .int .i64 n3], .int .i64 3]) ∧ Below W.heap.size W w')
    (H2 : ∀ W, Calls Try.prog 13 #[.agg #[.bool false, .int .u64 x1, .int .u64 x0, .int .i64 s]] W fun e w' => e = .returned (.bool true) ∧ Below W.heap.size W w')
    (H3 : ∀ W, Calls Try.prog 33 #[.agg #[.bool false, .int .u64 x1, .int .u64 x0, .int .i64 s]] W fun e w' => e = .returned (.tuple #[.agg #[.bool p0, .int .u64 p1, .int .u64 p2, .int .i64 p3], .int .i64 0]) ∧ Below W.heap.size W w')
    (H4 : ∀ W, Calls Try.prog 12 #[.agg #[.bool p0, .int .u64 p1, .int .u64 p2, .int .i64 p3], .agg #[.bool false, .int .u64 x1, .int .u64 x0, .int .i64 s]] W fun e w' => e = .returned (.tuple #[.int .i64 (-1), .int .i64 0]) ∧ Below W.heap.size W w')
    (w : World) : Calls Try.prog 7 #[.agg #[.bool false, .int .u64 x1, .int .u64 x0, .int .i64 s], .agg #[.bool b', .int .u64 y1, .int .u64 y0, .int .i64 s']] w fun e w' => e = .returned (.bool true) ∧ Below w.heap.size w w' := by
  have K1 := Lib.hid H1
  have K2 := Lib.hid H2
  have K3 := Lib.hid H3
  have K4 := Lib.hid H4
  clear H1 H2 H3 H4
  go_enter Try.func7, Try.ntmps7
  go_wp2_with fail
  refine (known_any _).mono ?_
  rintro _ w1 ⟨rfl, hb1⟩; have hb1s := hb1.size; (try simp only [World.size_alloc, World.size_setCell, World.size_drew, World.heap_drewN] at hb1s); obtain ⟨hb1c, hb1f⟩ := bcell hb1; (try have : w.heap.size < w1.heap.size := by omega); (try have : w.heap.size + 1 < w1.heap.size := by omega); (try have : w.heap.size + 1 + 1 < w1.heap.size := by omega); (try have : w.heap.size + 1 + 1 + 1 < w1.heap.size := by omega)
  have aq1 : Bk w1 (w.heap.size) 26 [.bool false, .int .u64 x1, .int .u64 x0, .int .i64 s] := by (repeat (first | (with_reducible assumption) | ((with_reducible refine Bk.new_ ?_); (first | rfl | (simp only [World.size_alloc, World.size_setCell, World.size_drew, World.heap_drewN]; done))) | (with_reducible refine Bk.alloc ?_ _) | (with_reducible refine Bk.drew ?_) | (with_reducible refine Bk.drewN ?_ _) | ((with_reducible refine Bk.far ?_ ?_ _); rotate_left; focus (simp only []; omega)) | ((with_reducible refine Bk.below ?_ (by with_reducible assumption) ?_); rotate_left; focus (go_size; done))))
  have aq1_0 := aq1.cell 0 rfl
  have aq1_1 := aq1.cell 1 rfl
  have aq1_2 := aq1.cell 2 rfl
  have aq1_3 := aq1.cell 3 rfl
  have aq1_4 := aq1.frozen 0
  have aq1_5 := aq1.frozen 1
  have aq1_6 := aq1.frozen 2
  have aq1_7 := aq1.frozen 3
  have aq1l := aq1.lt
  have cq1 : Bk w1 (w.heap.size + 1) 26 [.bool b', .int .u64 y1, .int .u64 y0, .int .i64 s'] := by (repeat (first | (with_reducible assumption) | ((with_reducible refine Bk.new_ ?_); (first | rfl | (simp only [World.size_alloc, World.size_setCell, World.size_drew, World.heap_drewN]; done))) | (with_reducible refine Bk.alloc ?_ _) | (with_reducible refine Bk.drew ?_) | (with_reducible refine Bk.drewN ?_ _) | ((with_reducible refine Bk.far ?_ ?_ _); rotate_left; focus (simp only []; omega)) | ((with_reducible refine Bk.below ?_ (by with_reducible assumption) ?_); rotate_left; focus (go_size; done))))
  have cq1_0 := cq1.cell 0 rfl
  have cq1_1 := cq1.cell 1 rfl
  have cq1_2 := cq1.cell 2 rfl
  have cq1_3 := cq1.cell 3 rfl
  have cq1_4 := cq1.frozen 0
  have cq1_5 := cq1.frozen 1
  have cq1_6 := cq1.frozen 2
  have cq1_7 := cq1.frozen 3
  have cq1l := cq1.lt
  clear hb1c hb1f
  go_wp2_with fail
  refine calls_named (fun W => Bk W (w.heap.size) 26 [.bool false, .int .u64 x1, .int .u64 x0, .int .i64 s] ∧ Bk W (w.heap.size + 1) 26 [.bool b', .int .u64 y1, .int .u64 y0, .int .i64 s'] ∧ Below w.heap.size w W) ⟨?h0, ?h1, ?h2⟩ ?_
  case h0 => ((repeat (first | (with_reducible assumption) | ((with_reducible refine Bk.new_ ?_); (first | rfl | (simp only [World.size_alloc, World.size_setCell, World.size_drew, World.heap_drewN]; done))) | (with_reducible refine Bk.alloc ?_ _) | (with_reducible refine Bk.drew ?_) | (with_reducible refine Bk.drewN ?_ _) | ((with_reducible refine Bk.far ?_ ?_ _); rotate_left; focus (simp only []; omega)) | ((with_reducible refine Bk.below ?_ (by with_reducible assumption) ?_); rotate_left; focus (go_size; done)))); done)
  case h1 => ((repeat (first | (with_reducible assumption) | ((with_reducible refine Bk.new_ ?_); (first | rfl | (simp only [World.size_alloc, World.size_setCell, World.size_drew, World.heap_drewN]; done))) | (with_reducible refine Bk.alloc ?_ _) | (with_reducible refine Bk.drew ?_) | (with_reducible refine Bk.drewN ?_ _) | ((with_reducible refine Bk.far ?_ ?_ _); rotate_left; focus (simp only []; omega)) | ((with_reducible refine Bk.below ?_ (by with_reducible assumption) ?_); rotate_left; focus (go_size; done)))); done)
  case h2 => ((repeat' (first | (with_reducible exact Below.refl _ _) | (with_reducible assumption) | (with_reducible refine Below.drew ?_) | (with_reducible refine below_drewN ?_ _) | ((with_reducible refine Below.alloc ?_ ?_ _); rotate_left; focus (go_size; done)) | ((with_reducible refine Below.setCell ?_ ?_ _); rotate_left; focus (go_size; done)) | ((with_reducible refine Below.trans ?_ (Below.mono (by with_reducible assumption) ?_)); rotate_left; focus (go_size; done)))); done)
  clear aq1_0 aq1_1 aq1_2 aq1_3 aq1_4 aq1_5 aq1_6 aq1_7
  clear cq1_0 cq1_1 cq1_2 cq1_3 cq1_4 cq1_5 cq1_6 cq1_7
  try clear hb1 hb1s
  try clear aq1 aq1l
  try clear cq1 cq1l
  try clear kal
  try clear kcl
  try clear ka
  try clear kc
  try clear kw
  rintro W1 ⟨ka, kc, kw⟩
  have kal := ka.lt
  have kcl := kc.lt
  refine (K1.out _).mono ?_
  rintro _ w2 ⟨rfl, hb2⟩; have hb2s := hb2.size; (try simp only [World.size_alloc, World.size_setCell, World.size_drew, World.heap_drewN] at hb2s); obtain ⟨hb2c, hb2f⟩ := bcell hb2; (try have : w.heap.size < w2.heap.size := by omega); (try have : w.heap.size + 1 < w2.heap.size := by omega); (try have : w.heap.size + 1 + 1 < w2.heap.size := by omega); (try have : w.heap.size + 1 + 1 + 1 < w2.heap.size := by omega)
  have aq2 : Bk w2 (w.heap.size) 26 [.bool false, .int .u64 x1, .int .u64 x0, .int .i64 s] := by (repeat (first | (with_reducible assumption) | ((with_reducible refine Bk.new_ ?_); (first | rfl | (simp only [World.size_alloc, World.size_setCell, World.size_drew, World.heap_drewN]; done))) | (with_reducible refine Bk.alloc ?_ _) | (with_reducible refine Bk.drew ?_) | (with_reducible refine Bk.drewN ?_ _) | ((with_reducible refine Bk.far ?_ ?_ _); rotate_left; focus (simp only []; omega)) | ((with_reducible refine Bk.below ?_ (by with_reducible assumption) ?_); rotate_left; focus (go_size; done))))
  have aq2_0 := aq2.cell 0 rfl
  have aq2_1 := aq2.cell 1 rfl
  have aq2_2 := aq2.cell 2 rfl
  have aq2_3 := aq2.cell 3 rfl
  have aq2_4 := aq2.frozen 0
  have aq2_5 := aq2.frozen 1
  have aq2_6 := aq2.frozen 2
  have aq2_7 := aq2.frozen 3
  have aq2l := aq2.lt
  have cq2 : Bk w2 (w.heap.size + 1) 26 [.bool b', .int .u64 y1, .int .u64 y0, .int .i64 s'] := by (repeat (first | (with_reducible assumption) | ((with_reducible refine Bk.new_ ?_); (first | rfl | (simp only [World.size_alloc, World.size_setCell, World.size_drew, World.heap_drewN]; done))) | (with_reducible refine Bk.alloc ?_ _) | (with_reducible refine Bk.drew ?_) | (with_reducible refine Bk.drewN ?_ _) | ((with_reducible refine Bk.far ?_ ?_ _); rotate_left; focus (simp only []; omega)) | ((with_reducible refine Bk.below ?_ (by with_reducible assumption) ?_); rotate_left; focus (go_size; done))))
  have cq2_0 := cq2.cell 0 rfl
  have cq2_1 := cq2.cell 1 rfl
  have cq2_2 := cq2.cell 2 rfl
  have cq2_3 := cq2.cell 3 rfl
  have cq2_4 := cq2.frozen 0
  have cq2_5 := cq2.frozen 1
  have cq2_6 := cq2.frozen 2
  have cq2_7 := cq2.frozen 3
  have cq2l := cq2.lt
  clear hb2c hb2f
  go_wp2_with fail
  obtain ⟨gn, hgn⟩ : ∃ gn, gn = w2.heap.size := ⟨_, rfl⟩
  refine calls_named (fun W => Bk W (w.heap.size) 26 [.bool false, .int .u64 x1, .int .u64 x0, .int .i64 s] ∧ Bk W (w.heap.size + 1) 26 [.bool b', .int .u64 y1, .int .u64 y0, .int .i64 s'] ∧ Bk W w2.heap.size 26 [.bool n0, .int .u64 n1, .int .u64 n2, .int .i64 n3] ∧ Below w.heap.size w W) ⟨?h0, ?h1, ?h2, ?h3⟩ ?_
  case h0 => ((repeat (first | (with_reducible assumption) | ((with_reducible refine Bk.new_ ?_); (first | rfl | (simp only [World.size_alloc, World.size_setCell, World.size_drew, World.heap_drewN]; done))) | (with_reducible refine Bk.alloc ?_ _) | (with_reducible refine Bk.drew ?_) | (with_reducible refine Bk.drewN ?_ _) | ((with_reducible refine Bk.far ?_ ?_ _); rotate_left; focus (simp only []; omega)) | ((with_reducible refine Bk.below ?_ (by with_reducible assumption) ?_); rotate_left; focus (go_size; done)))); done)
  case h1 => ((repeat (first | (with_reducible assumption) | ((with_reducible refine Bk.new_ ?_); (first | rfl | (simp only [World.size_alloc, World.size_setCell, World.size_drew, World.heap_drewN]; done))) | (with_reducible refine Bk.alloc ?_ _) | (with_reducible refine Bk.drew ?_) | (with_reducible refine Bk.drewN ?_ _) | ((with_reducible refine Bk.far ?_ ?_ _); rotate_left; focus (simp only []; omega)) | ((with_reducible refine Bk.below ?_ (by with_reducible assumption) ?_); rotate_left; focus (go_size; done)))); done)
  case h2 => ((repeat (first | (with_reducible assumption) | ((with_reducible refine Bk.new_ ?_); (first | rfl | (simp only [World.size_alloc, World.size_setCell, World.size_drew, World.heap_drewN]; done))) | (with_reducible refine Bk.alloc ?_ _) | (with_reducible refine Bk.drew ?_) | (with_reducible refine Bk.drewN ?_ _) | ((with_reducible refine Bk.far ?_ ?_ _); rotate_left; focus (simp only []; omega)) | ((with_reducible refine Bk.below ?_ (by with_reducible assumption) ?_); rotate_left; focus (go_size; done)))); done)
  case h3 => ((repeat' (first | (with_reducible exact Below.refl _ _) | (with_reducible assumption) | (with_reducible refine Below.drew ?_) | (with_reducible refine below_drewN ?_ _) | ((with_reducible refine Below.alloc ?_ ?_ _); rotate_left; focus (go_size; done)) | ((with_reducible refine Below.setCell ?_ ?_ _); rotate_left; focus (go_size; done)) | ((with_reducible refine Below.trans ?_ (Below.mono (by with_reducible assumption) ?_)); rotate_left; focus (go_size; done)))); done)
  clear aq2_0 aq2_1 aq2_2 aq2_3 aq2_4 aq2_5 aq2_6 aq2_7
  clear cq2_0 cq2_1 cq2_2 cq2_3 cq2_4 cq2_5 cq2_6 cq2_7
  rw [← hgn]
  have gn_a : w.heap.size < gn := by omega
  have gn_c : w.heap.size + 1 < gn := by omega
  clear hgn
  try clear hb2 hb2s
  try clear aq2 aq2l
  try clear cq2 cq2l
  try clear kal
  try clear kcl
  try clear ka
  try clear kc
  try clear kw
  rintro W2 ⟨ka, kc, kn, kw⟩
  have kal := ka.lt
  have kcl := kc.lt
  have knl := kn.lt
  refine (K2.out _).mono ?_
  rintro _ w3 ⟨rfl, hb3⟩; have hb3s := hb3.size; (try simp only [World.size_alloc, World.size_setCell, World.size_drew, World.heap_drewN] at hb3s); obtain ⟨hb3c, hb3f⟩ := bcell hb3; (try have : w.heap.size < w3.heap.size := by omega); (try have : w.heap.size + 1 < w3.heap.size := by omega); (try have : w.heap.size + 1 + 1 < w3.heap.size := by omega); (try have : w.heap.size + 1 + 1 + 1 < w3.heap.size := by omega)
  have aq3 : Bk w3 (w.heap.size) 26 [.bool false, .int .u64 x1, .int .u64 x0, .int .i64 s] := by (repeat (first | (with_reducible assumption) | ((with_reducible refine Bk.new_ ?_); (first | rfl | (simp only [World.size_alloc, World.size_setCell, World.size_drew, World.heap_drewN]; done))) | (with_reducible refine Bk.alloc ?_ _) | (with_reducible refine Bk.drew ?_) | (with_reducible refine Bk.drewN ?_ _) | ((with_reducible refine Bk.far ?_ ?_ _); rotate_left; focus (simp only []; omega)) | ((with_reducible refine Bk.below ?_ (by with_reducible assumption) ?_); rotate_left; focus (go_size; done))))
  have aq3_0 := aq3.cell 0 rfl
  have aq3_1 := aq3.cell 1 rfl
  have aq3_2 := aq3.cell 2 rfl
  have aq3_3 := aq3.cell 3 rfl
  have aq3_4 := aq3.frozen 0
  have aq3_5 := aq3.frozen 1
  have aq3_6 := aq3.frozen 2
  have aq3_7 := aq3.frozen 3
  have aq3l := aq3.lt
  have cq3 : Bk w3 (w.heap.size + 1) 26 [.bool b', .int .u64 y1, .int .u64 y0, .int .i64 s'] := by (repeat (first | (with_reducible assumption) | ((with_reducible refine Bk.new_ ?_); (first | rfl | (simp only [World.size_alloc, World.size_setCell, World.size_drew, World.heap_drewN]; done))) | (with_reducible refine Bk.alloc ?_ _) | (with_reducible refine Bk.drew ?_) | (with_reducible refine Bk.drewN ?_ _) | ((with_reducible refine Bk.far ?_ ?_ _); rotate_left; focus (simp only []; omega)) | ((with_reducible refine Bk.below ?_ (by with_reducible assumption) ?_); rotate_left; focus (go_size; done))))
  have cq3_0 := cq3.cell 0 rfl
  have cq3_1 := cq3.cell 1 rfl
  have cq3_2 := cq3.cell 2 rfl
  have cq3_3 := cq3.cell 3 rfl
  have cq3_4 := cq3.frozen 0
  have cq3_5 := cq3.frozen 1
  have cq3_6 := cq3.frozen 2
  have cq3_7 := cq3.frozen 3
  have cq3l := cq3.lt
  have nq3 : Bk w3 (gn) 26 [.bool n0, .int .u64 n1, .int .u64 n2, .int .i64 n3] := by (repeat (first | (with_reducible assumption) | ((with_reducible refine Bk.new_ ?_); (first | rfl | (simp only [World.size_alloc, World.size_setCell, World.size_drew, World.heap_drewN]; done))) | (with_reducible refine Bk.alloc ?_ _) | (with_reducible refine Bk.drew ?_) | (with_reducible refine Bk.drewN ?_ _) | ((with_reducible refine Bk.far ?_ ?_ _); rotate_left; focus (simp only []; omega)) | ((with_reducible refine Bk.below ?_ (by with_reducible assumption) ?_); rotate_left; focus (go_size; done))))
  have nq3_0 := nq3.cell 0 rfl
  have nq3_1 := nq3.cell 1 rfl
  have nq3_2 := nq3.cell 2 rfl
  have nq3_3 := nq3.cell 3 rfl
  have nq3_4 := nq3.frozen 0
  have nq3_5 := nq3.frozen 1
  have nq3_6 := nq3.frozen 2
  have nq3_7 := nq3.frozen 3
  have nq3l := nq3.lt
  clear hb3c hb3f
  go_wp2_with fail
  refine calls_named (fun W => Bk W (w.heap.size) 26 [.bool false, .int .u64 x1, .int .u64 x0, .int .i64 s] ∧ Bk W (w.heap.size + 1) 26 [.bool b', .int .u64 y1, .int .u64 y0, .int .i64 s'] ∧ Bk W (gn) 26 [.bool n0, .int .u64 n1, .int .u64 n2, .int .i64 n3] ∧ Below w.heap.size w W) ⟨?h0, ?h1, ?h2, ?h3⟩ ?_
  case h0 => ((repeat (first | (with_reducible assumption) | ((with_reducible refine Bk.new_ ?_); (first | rfl | (simp only [World.size_alloc, World.size_setCell, World.size_drew, World.heap_drewN]; done))) | (with_reducible refine Bk.alloc ?_ _) | (with_reducible refine Bk.drew ?_) | (with_reducible refine Bk.drewN ?_ _) | ((with_reducible refine Bk.far ?_ ?_ _); rotate_left; focus (simp only []; omega)) | ((with_reducible refine Bk.below ?_ (by with_reducible assumption) ?_); rotate_left; focus (go_size; done)))); done)
  case h1 => ((repeat (first | (with_reducible assumption) | ((with_reducible refine Bk.new_ ?_); (first | rfl | (simp only [World.size_alloc, World.size_setCell, World.size_drew, World.heap_drewN]; done))) | (with_reducible refine Bk.alloc ?_ _) | (with_reducible refine Bk.drew ?_) | (with_reducible refine Bk.drewN ?_ _) | ((with_reducible refine Bk.far ?_ ?_ _); rotate_left; focus (simp only []; omega)) | ((with_reducible refine Bk.below ?_ (by with_reducible assumption) ?_); rotate_left; focus (go_size; done)))); done)
  case h2 => ((repeat (first | (with_reducible assumption) | ((with_reducible refine Bk.new_ ?_); (first | rfl | (simp only [World.size_alloc, World.size_setCell, World.size_drew, World.heap_drewN]; done))) | (with_reducible refine Bk.alloc ?_ _) | (with_reducible refine Bk.drew ?_) | (with_reducible refine Bk.drewN ?_ _) | ((with_reducible refine Bk.far ?_ ?_ _); rotate_left; focus (simp only []; omega)) | ((with_reducible refine Bk.below ?_ (by with_reducible assumption) ?_); rotate_left; focus (go_size; done)))); done)
  case h3 => ((repeat' (first | (with_reducible exact Below.refl _ _) | (with_reducible assumption) | (with_reducible refine Below.drew ?_) | (with_reducible refine below_drewN ?_ _) | ((with_reducible refine Below.alloc ?_ ?_ _); rotate_left; focus (go_size; done)) | ((with_reducible refine Below.setCell ?_ ?_ _); rotate_left; focus (go_size; done)) | ((with_reducible refine Below.trans ?_ (Below.mono (by with_reducible assumption) ?_)); rotate_left; focus (go_size; done)))); done)
  clear aq3_0 aq3_1 aq3_2 aq3_3 aq3_4 aq3_5 aq3_6 aq3_7
  clear cq3_0 cq3_1 cq3_2 cq3_3 cq3_4 cq3_5 cq3_6 cq3_7
  clear nq3_0 nq3_1 nq3_2 nq3_3 nq3_4 nq3_5 nq3_6 nq3_7
  try clear hb3 hb3s
  try clear aq3 aq3l
  try clear cq3 cq3l
  try clear nq3 nq3l
  try clear kal
  try clear kcl
  try clear knl
  try clear ka
  try clear kc
  try clear kn
  try clear kw
  rintro W3 ⟨ka, kc, kn, kw⟩
  have kal := ka.lt
  have kcl := kc.lt
  have knl := kn.lt
  refine (K3.out _).mono ?_
  rintro _ w4 ⟨rfl, hb4⟩; have hb4s := hb4.size; (try simp only [World.size_alloc, World.size_setCell, World.size_drew, World.heap_drewN] at hb4s); obtain ⟨hb4c, hb4f⟩ := bcell hb4; (try have : w.heap.size < w4.heap.size := by omega); (try have : w.heap.size + 1 < w4.heap.size := by omega); (try have : w.heap.size + 1 + 1 < w4.heap.size := by omega); (try have : w.heap.size + 1 + 1 + 1 < w4.heap.size := by omega)
  have aq4 : Bk w4 (w.heap.size) 26 [.bool false, .int .u64 x1, .int .u64 x0, .int .i64 s] := by (repeat (first | (with_reducible assumption) | ((with_reducible refine Bk.new_ ?_); (first | rfl | (simp only [World.size_alloc, World.size_setCell, World.size_drew, World.heap_drewN]; done))) | (with_reducible refine Bk.alloc ?_ _) | (with_reducible refine Bk.drew ?_) | (with_reducible refine Bk.drewN ?_ _) | ((with_reducible refine Bk.far ?_ ?_ _); rotate_left; focus (simp only []; omega)) | ((with_reducible refine Bk.below ?_ (by with_reducible assumption) ?_); rotate_left; focus (go_size; done))))
  have aq4_0 := aq4.cell 0 rfl
  have aq4_1 := aq4.cell 1 rfl
  have aq4_2 := aq4.cell 2 rfl
  have aq4_3 := aq4.cell 3 rfl
  have aq4_4 := aq4.frozen 0
  have aq4_5 := aq4.frozen 1
  have aq4_6 := aq4.frozen 2
  have aq4_7 := aq4.frozen 3
  have aq4l := aq4.lt
  have cq4 : Bk w4 (w.heap.size + 1) 26 [.bool b', .int .u64 y1, .int .u64 y0, .int .i64 s'] := by (repeat (first | (with_reducible assumption) | ((with_reducible refine Bk.new_ ?_); (first | rfl | (simp only [World.size_alloc, World.size_setCell, World.size_drew, World.heap_drewN]; done))) | (with_reducible refine Bk.alloc ?_ _) | (with_reducible refine Bk.drew ?_) | (with_reducible refine Bk.drewN ?_ _) | ((with_reducible refine Bk.far ?_ ?_ _); rotate_left; focus (simp only []; omega)) | ((with_reducible refine Bk.below ?_ (by with_reducible assumption) ?_); rotate_left; focus (go_size; done))))
  have cq4_0 := cq4.cell 0 rfl
  have cq4_1 := cq4.cell 1 rfl
  have cq4_2 := cq4.cell 2 rfl
  have cq4_3 := cq4.cell 3 rfl
  have cq4_4 := cq4.frozen 0
  have cq4_5 := cq4.frozen 1
  have cq4_6 := cq4.frozen 2
  have cq4_7 := cq4.frozen 3
  have cq4l := cq4.lt
  have nq4 : Bk w4 (gn) 26 [.bool n0, .int .u64 n1, .int .u64 n2, .int .i64 n3] := by (repeat (first | (with_reducible assumption) | ((with_reducible refine Bk.new_ ?_); (first | rfl | (simp only [World.size_alloc, World.size_setCell, World.size_drew, World.heap_drewN]; done))) | (with_reducible refine Bk.alloc ?_ _) | (with_reducible refine Bk.drew ?_) | (with_reducible refine Bk.drewN ?_ _) | ((with_reducible refine Bk.far ?_ ?_ _); rotate_left; focus (simp only []; omega)) | ((with_reducible refine Bk.below ?_ (by with_reducible assumption) ?_); rotate_left; focus (go_size; done))))
  have nq4_0 := nq4.cell 0 rfl
  have nq4_1 := nq4.cell 1 rfl
  have nq4_2 := nq4.cell 2 rfl
  have nq4_3 := nq4.cell 3 rfl
  have nq4_4 := nq4.frozen 0
  have nq4_5 := nq4.frozen 1
  have nq4_6 := nq4.frozen 2
  have nq4_7 := nq4.frozen 3
  have nq4l := nq4.lt
  clear hb4c hb4f
  go_wp2_with fail
  obtain ⟨gp, hgp⟩ : ∃ gp, gp = w4.heap.size := ⟨_, rfl⟩
  refine calls_named (fun W => Bk W (w.heap.size) 26 [.bool false, .int .u64 x1, .int .u64 x0, .int .i64 s] ∧ Bk W (w.heap.size + 1) 26 [.bool b', .int .u64 y1, .int .u64 y0, .int .i64 s'] ∧ Bk W (gn) 26 [.bool n0, .int .u64 n1, .int .u64 n2, .int .i64 n3] ∧ Bk W w4.heap.size 26 [.bool p0, .int .u64 p1, .int .u64 p2, .int .i64 p3] ∧ Below w.heap.size w W) ⟨?h0, ?h1, ?h2, ?h3, ?h4⟩ ?_
  case h0 => ((repeat (first | (with_reducible assumption) | ((with_reducible refine Bk.new_ ?_); (first | rfl | (simp only [World.size_alloc, World.size_setCell, World.size_drew, World.heap_drewN]; done))) | (with_reducible refine Bk.alloc ?_ _) | (with_reducible refine Bk.drew ?_) | (with_reducible refine Bk.drewN ?_ _) | ((with_reducible refine Bk.far ?_ ?_ _); rotate_left; focus (simp only []; omega)) | ((with_reducible refine Bk.below ?_ (by with_reducible assumption) ?_); rotate_left; focus (go_size; done)))); done)
  case h1 => ((repeat (first | (with_reducible assumption) | ((with_reducible refine Bk.new_ ?_); (first | rfl | (simp only [World.size_alloc, World.size_setCell, World.size_drew, World.heap_drewN]; done))) | (with_reducible refine Bk.alloc ?_ _) | (with_reducible refine Bk.drew ?_) | (with_reducible refine Bk.drewN ?_ _) | ((with_reducible refine Bk.far ?_ ?_ _); rotate_left; focus (simp only []; omega)) | ((with_reducible refine Bk.below ?_ (by with_reducible assumption) ?_); rotate_left; focus (go_size; done)))); done)
  case h2 => ((repeat (first | (with_reducible assumption) | ((with_reducible refine Bk.new_ ?_); (first | rfl | (simp only [World.size_alloc, World.size_setCell, World.size_drew, World.heap_drewN]; done))) | (with_reducible refine Bk.alloc ?_ _) | (with_reducible refine Bk.drew ?_) | (with_reducible refine Bk.drewN ?_ _) | ((with_reducible refine Bk.far ?_ ?_ _); rotate_left; focus (simp only []; omega)) | ((with_reducible refine Bk.below ?_ (by with_reducible assumption) ?_); rotate_left; focus (go_size; done)))); done)
  case h3 => ((repeat (first | (with_reducible assumption) | ((with_reducible refine Bk.new_ ?_); (first | rfl | (simp only [World.size_alloc, World.size_setCell, World.size_drew, World.heap_drewN]; done))) | (with_reducible refine Bk.alloc ?_ _) | (with_reducible refine Bk.drew ?_) | (with_reducible refine Bk.drewN ?_ _) | ((with_reducible refine Bk.far ?_ ?_ _); rotate_left; focus (simp only []; omega)) | ((with_reducible refine Bk.below ?_ (by with_reducible assumption) ?_); rotate_left; focus (go_size; done)))); done)
  case h4 => ((repeat' (first | (with_reducible exact Below.refl _ _) | (with_reducible assumption) | (with_reducible refine Below.drew ?_) | (with_reducible refine below_drewN ?_ _) | ((with_reducible refine Below.alloc ?_ ?_ _); rotate_left; focus (go_size; done)) | ((with_reducible refine Below.setCell ?_ ?_ _); rotate_left; focus (go_size; done)) | ((with_reducible refine Below.trans ?_ (Below.mono (by with_reducible assumption) ?_)); rotate_left; focus (go_size; done)))); done)
  clear aq4_0 aq4_1 aq4_2 aq4_3 aq4_4 aq4_5 aq4_6 aq4_7
  clear cq4_0 cq4_1 cq4_2 cq4_3 cq4_4 cq4_5 cq4_6 cq4_7
  clear nq4_0 nq4_1 nq4_2 nq4_3 nq4_4 nq4_5 nq4_6 nq4_7
  rw [← hgp]
  have gp_a : w.heap.size < gp := by omega
  have gp_c : w.heap.size + 1 < gp := by omega
  have gp_n : gn < gp := by omega
  clear hgp
  try clear hb4 hb4s
  try clear aq4 aq4l
  try clear cq4 cq4l
  try clear nq4 nq4l
  try clear kal
  try clear kcl
  try clear knl
  try clear ka
  try clear kc
  try clear kn
  try clear kw
  rintro W4 ⟨ka, kc, kn, kp, kw⟩
  have kal := ka.lt
  have kcl := kc.lt
  have knl := kn.lt
  have kpl := kp.lt
  refine (K4.out _).mono ?_
  rintro _ w5 ⟨rfl, hb5⟩; have hb5s := hb5.size; (try simp only [World.size_alloc, World.size_setCell, World.size_drew, World.heap_drewN] at hb5s); obtain ⟨hb5c, hb5f⟩ := bcell hb5; (try have : w.heap.size < w5.heap.size := by omega); (try have : w.heap.size + 1 < w5.heap.size := by omega); (try have : w.heap.size + 1 + 1 < w5.heap.size := by omega); (try have : w.heap.size + 1 + 1 + 1 < w5.heap.size := by omega)
  have aq5 : Bk w5 (w.heap.size) 26 [.bool false, .int .u64 x1, .int .u64 x0, .int .i64 s] := by (repeat (first | (with_reducible assumption) | ((with_reducible refine Bk.new_ ?_); (first | rfl | (simp only [World.size_alloc, World.size_setCell, World.size_drew, World.heap_drewN]; done))) | (with_reducible refine Bk.alloc ?_ _) | (with_reducible refine Bk.drew ?_) | (with_reducible refine Bk.drewN ?_ _) | ((with_reducible refine Bk.far ?_ ?_ _); rotate_left; focus (simp only []; omega)) | ((with_reducible refine Bk.below ?_ (by with_reducible assumption) ?_); rotate_left; focus (go_size; done))))
  have aq5_0 := aq5.cell 0 rfl
  have aq5_1 := aq5.cell 1 rfl
  have aq5_2 := aq5.cell 2 rfl
  have aq5_3 := aq5.cell 3 rfl
  have aq5_4 := aq5.frozen 0
  have aq5_5 := aq5.frozen 1
  have aq5_6 := aq5.frozen 2
  have aq5_7 := aq5.frozen 3
  have aq5l := aq5.lt
  have cq5 : Bk w5 (w.heap.size + 1) 26 [.bool b', .int .u64 y1, .int .u64 y0, .int .i64 s'] := by (repeat (first | (with_reducible assumption) | ((with_reducible refine Bk.new_ ?_); (first | rfl | (simp only [World.size_alloc, World.size_setCell, World.size_drew, World.heap_drewN]; done))) | (with_reducible refine Bk.alloc ?_ _) | (with_reducible refine Bk.drew ?_) | (with_reducible refine Bk.drewN ?_ _) | ((with_reducible refine Bk.far ?_ ?_ _); rotate_left; focus (simp only []; omega)) | ((with_reducible refine Bk.below ?_ (by with_reducible assumption) ?_); rotate_left; focus (go_size; done))))
  have cq5_0 := cq5.cell 0 rfl
  have cq5_1 := cq5.cell 1 rfl
  have cq5_2 := cq5.cell 2 rfl
  have cq5_3 := cq5.cell 3 rfl
  have cq5_4 := cq5.frozen 0
  have cq5_5 := cq5.frozen 1
  have cq5_6 := cq5.frozen 2
  have cq5_7 := cq5.frozen 3
  have cq5l := cq5.lt
  have nq5 : Bk w5 (gn) 26 [.bool n0, .int .u64 n1, .int .u64 n2, .int .i64 n3] := by (repeat (first | (with_reducible assumption) | ((with_reducible refine Bk.new_ ?_); (first | rfl | (simp only [World.size_alloc, World.size_setCell, World.size_drew, World.heap_drewN]; done))) | (with_reducible refine Bk.alloc ?_ _) | (with_reducible refine Bk.drew ?_) | (with_reducible refine Bk.drewN ?_ _) | ((with_reducible refine Bk.far ?_ ?_ _); rotate_left; focus (simp only []; omega)) | ((with_reducible refine Bk.below ?_ (by with_reducible assumption) ?_); rotate_left; focus (go_size; done))))
  have nq5_0 := nq5.cell 0 rfl
  have nq5_1 := nq5.cell 1 rfl
  have nq5_2 := nq5.cell 2 rfl
  have nq5_3 := nq5.cell 3 rfl
  have nq5_4 := nq5.frozen 0
  have nq5_5 := nq5.frozen 1
  have nq5_6 := nq5.frozen 2
  have nq5_7 := nq5.frozen 3
  have nq5l := nq5.lt
  have pq5 : Bk w5 (gp) 26 [.bool p0, .int .u64 p1, .int .u64 p2, .int .i64 p3] := by (repeat (first | (with_reducible assumption) | ((with_reducible refine Bk.new_ ?_); (first | rfl | (simp only [World.size_alloc, World.size_setCell, World.size_drew, World.heap_drewN]; done))) | (with_reducible refine Bk.alloc ?_ _) | (with_reducible refine Bk.drew ?_) | (with_reducible refine Bk.drewN ?_ _) | ((with_reducible refine Bk.far ?_ ?_ _); rotate_left; focus (simp only []; omega)) | ((with_reducible refine Bk.below ?_ (by with_reducible assumption) ?_); rotate_left; focus (go_size; done))))
  have pq5_0 := pq5.cell 0 rfl
  have pq5_1 := pq5.cell 1 rfl
  have pq5_2 := pq5.cell 2 rfl
  have pq5_3 := pq5.cell 3 rfl
  have pq5_4 := pq5.frozen 0
  have pq5_5 := pq5.frozen 1
  have pq5_6 := pq5.frozen 2
  have pq5_7 := pq5.frozen 3
  have pq5l := pq5.lt
  clear hb5c hb5f
  go_wp2_with fail
  go_ret
  exact ⟨rfl, by (repeat' (first | (with_reducible exact Below.refl _ _) | (with_reducible assumption) | (with_reducible refine Below.drew ?_) | (with_reducible refine below_drewN ?_ _) | ((with_reducible refine Below.alloc ?_ ?_ _); rotate_left; focus (go_size; done)) | ((with_reducible refine Below.setCell ?_ ?_ _); rotate_left; focus (go_size; done)) | ((with_reducible refine Below.trans ?_ (Below.mono (by with_reducible assumption) ?_)); rotate_left; focus (go_size; done))))⟩
set_option maxRecDepth 100000 in
set_option maxHeartbeats 8000000 in
theorem between_ok (b : Bool) (x1 x0 s : Int) (b' : Bool) (y1 y0 s' : Int) (n0 : Bool) (n1 n2 n3 : Int) (fb : Bool) (x y : Int)
    (H1 : ∀ W, Calls Try.prog 31 #[.agg #[.bool b, .int .u64 x1, .int .u64 x0, .int .i64 s]] W fun e w' => e = .returned (.tuple #[.agg #[.bool n0, .int .u64 n1, .int .u64 n2, .int .i64 n3], .int .i64 0]) ∧ Below W.heap.size W w')
    (H2 : ∀ W, Calls Try.prog 13 #[.agg #[.bool b, .int .u64 x1, .int .u64 x0, .int .i64 s]] W fun e w' => e = .returned (.bool true) ∧ Below W.heap.size W w')
    (H3 : ∀ W, Calls Try.prog 33 #[.agg #[.bool n0, .int .u64 n1, .int .u64 n2, .int .i64 n3]] W fun e w' => e = .returned (.tuple #[.agg #[.bool b, .int .u64 x1, .int .u64 x0, .int .i64 s], .int .i64 0]) ∧ Below W.heap.size W w')
    (H4 : ∀ W, Calls Try.prog 12 #[.agg #[.bool b, .int .u64 x1, .int .u64 x0, .int .i64 s], .agg #[.bool n0, .int .u64 n1, .int .u64 n2, .int .i64 n3]] W fun e w' => e = .returned (.tuple #[.int .i64 (-1), .int .i64 0]) ∧ Below W.heap.size W w')
    (H5 : ∀ W, Calls Try.prog 16 #[.agg #[.bool n0, .int .u64 n1, .int .u64 n2, .int .i64 n3]] W fun e w' => e = .returned (.bool true) ∧ Below W.heap.size W w')
    (H6 : ∀ W, Calls Try.prog 13 #[.agg #[.bool b', .int .u64 y1, .int .u64 y0, .int .i64 s']] W fun e w' => e = .returned (.bool fb) ∧ Below W.heap.size W w')
    (H7 : fb = true → ∀ W, Calls Try.prog 12 #[.agg #[.bool b', .int .u64 y1, .int .u64 y0, .int .i64 s'], .agg #[.bool b, .int .u64 x1, .int .u64 x0, .int .i64 s]] W fun e w' => e = .returned (.tuple #[.int .i64 x, .int .i64 0]) ∧ Below W.heap.size W w')
    (H8 : fb = true → ∀ W, Calls Try.prog 12 #[.agg #[.bool n0, .int .u64 n1, .int .u64 n2, .int .i64 n3], .agg #[.bool b', .int .u64 y1, .int .u64 y0, .int .i64 s']] W fun e w' => e = .returned (.tuple #[.int .i64 y, .int .i64 0]) ∧ Below W.heap.size W w')
    (hxy : fb = true → x ≤ 0 ∨ y ≤ 0)
    (w : World) : Calls Try.prog 7 #[.agg #[.bool b, .int .u64 x1, .int .u64 x0, .int .i64 s], .agg #[.bool b', .int .u64 y1, .int .u64 y0, .int .i64 s']] w fun e w' => e = .returned (.bool true) ∧ Below w.heap.size w w' := by
  have K1 := Lib.hid H1
  have K2 := Lib.hid H2
  have K3 := Lib.hid H3
  have K4 := Lib.hid H4
  have K5 := Lib.hid H5
  have K6 := Lib.hid H6
  have K7 := Lib.hid H7
  have K8 := Lib.hid H8
  clear H1 H2 H3 H4 H5 H6 H7 H8
  have r1 : ∀ W, (binOp .neq 26 (.agg #[.bool b, .int .u64 x1, .int .u64 x0, .int .i64 s]) (.agg #[.bool b, .int .u64 x1, .int .u64 x0, .int .i64 s])).run Try.prog W = .ok (.bool false) W := fun W => by rw [neq_dec]; simp
  go_enter Try.func7, Try.ntmps7
  go_wp2_with fail
  refine (known_any _).mono ?_
  rintro _ w1 ⟨rfl, hb1⟩; have hb1s := hb1.size; (try simp only [World.size_alloc, World.size_setCell, World.size_drew, World.heap_drewN] at hb1s); obtain ⟨hb1c, hb1f⟩ := bcell hb1; (try have : w.heap.size < w1.heap.size := by omega); (try have : w.heap.size + 1 < w1.heap.size := by omega); (try have : w.heap.size + 1 + 1 < w1.heap.size := by omega); (try have : w.heap.size + 1 + 1 + 1 < w1.heap.size := by omega)
  have aq1 : Bk w1 (w.heap.size) 26 [.bool b, .int .u64 x1, .int .u64 x0, .int .i64 s] := by (repeat (first | (with_reducible assumption) | ((with_reducible refine Bk.new_ ?_); (first | rfl | (simp only [World.size_alloc, World.size_setCell, World.size_drew, World.heap_drewN]; done))) | (with_reducible refine Bk.alloc ?_ _) | (with_reducible refine Bk.drew ?_) | (with_reducible refine Bk.drewN ?_ _) | ((with_reducible refine Bk.far ?_ ?_ _); rotate_left; focus (simp only []; omega)) | ((with_reducible refine Bk.below ?_ (by with_reducible assumption) ?_); rotate_left; focus (go_size; done))))
  have aq1_0 := aq1.cell 0 rfl
  have aq1_1 := aq1.cell 1 rfl
  have aq1_2 := aq1.cell 2 rfl
  have aq1_3 := aq1.cell 3 rfl
  have aq1_4 := aq1.frozen 0
  have aq1_5 := aq1.frozen 1
  have aq1_6 := aq1.frozen 2
  have aq1_7 := aq1.frozen 3
  have aq1l := aq1.lt
  have cq1 : Bk w1 (w.heap.size + 1) 26 [.bool b', .int .u64 y1, .int .u64 y0, .int .i64 s'] := by (repeat (first | (with_reducible assumption) | ((with_reducible refine Bk.new_ ?_); (first | rfl | (simp only [World.size_alloc, World.size_setCell, World.size_drew, World.heap_drewN]; done))) | (with_reducible refine Bk.alloc ?_ _) | (with_reducible refine Bk.drew ?_) | (with_reducible refine Bk.drewN ?_ _) | ((with_reducible refine Bk.far ?_ ?_ _); rotate_left; focus (simp only []; omega)) | ((with_reducible refine Bk.below ?_ (by with_reducible assumption) ?_); rotate_left; focus (go_size; done))))
  have cq1_0 := cq1.cell 0 rfl
  have cq1_1 := cq1.cell 1 rfl
  have cq1_2 := cq1.cell 2 rfl
  have cq1_3 := cq1.cell 3 rfl
  have cq1_4 := cq1.frozen 0
  have cq1_5 := cq1.frozen 1
  have cq1_6 := cq1.frozen 2
  have cq1_7 := cq1.frozen 3
  have cq1l := cq1.lt
  clear hb1c hb1f
  go_wp2_with fail
  refine calls_named (fun W => Bk W (w.heap.size) 26 [.bool b, .int .u64 x1, .int .u64 x0, .int .i64 s] ∧ Bk W (w.heap.size + 1) 26 [.bool b', .int .u64 y1, .int .u64 y0, .int .i64 s'] ∧ Below w.heap.size w W) ⟨?h0, ?h1, ?h2⟩ ?_
  case h0 => ((repeat (first | (with_reducible assumption) | ((with_reducible refine Bk.new_ ?_); (first | rfl | (simp only [World.size_alloc, World.size_setCell, World.size_drew, World.heap_drewN]; done))) | (with_reducible refine Bk.alloc ?_ _) | (with_reducible refine Bk.drew ?_) | (with_reducible refine Bk.drewN ?_ _) | ((with_reducible refine Bk.far ?_ ?_ _); rotate_left; focus (simp only []; omega)) | ((with_reducible refine Bk.below ?_ (by with_reducible assumption) ?_); rotate_left; focus (go_size; done)))); done)
  case h1 => ((repeat (first | (with_reducible assumption) | ((with_reducible refine Bk.new_ ?_); (first | rfl | (simp only [World.size_alloc, World.size_setCell, World.size_drew, World.heap_drewN]; done))) | (with_reducible refine Bk.alloc ?_ _) | (with_reducible refine Bk.drew ?_) | (with_reducible refine Bk.drewN ?_ _) | ((with_reducible refine Bk.far ?_ ?_ _); rotate_left; focus (simp only []; omega)) | ((with_reducible refine Bk.below ?_ (by with_reducible assumption) ?_); rotate_left; focus (go_size; done)))); done)
  case h2 => ((repeat' (first | (with_reducible exact Below.refl _ _) | (with_reducible assumption) | (with_reducible refine Below.drew ?_) | (with_reducible refine below_drewN ?_ _) | ((with_reducible refine Below.alloc ?_ ?_ _); rotate_left; focus (go_size; done)) | ((with_reducible refine Below.setCell ?_ ?_ _); rotate_left; focus (go_size; done)) | ((with_reducible refine Below.trans ?_ (Below.mono (by with_reducible assumption) ?_)); rotate_left; focus (go_size; done)))); done)
  clear aq1_0 aq1_1 aq1_2 aq1_3 aq1_4 aq1_5 aq1_6 aq1_7
  clear cq1_0 cq1_1 cq1_2 cq1_3 cq1_4 cq1_5 cq1_6 cq1_7
  try clear hb1 hb1s
  try clear aq1 aq1l
  try clear cq1 cq1l
  try clear kal
  try clear kcl
  try clear ka
  try clear kc
  try clear kw
  rintro W1 ⟨ka, kc, kw⟩
  have kal := ka.lt
  have kcl := kc.lt
  refine (K1.out _).mono ?_
  rintro _ w2 ⟨rfl, hb2⟩; have hb2s := hb2.size; (try simp only [World.size_alloc, World.size_setCell, World.size_drew, World.heap_drewN] at hb2s); obtain ⟨hb2c, hb2f⟩ := bcell hb2; (try have : w.heap.size < w2.heap.size := by omega); (try have : w.heap.size + 1 < w2.heap.size := by omega); (try have : w.heap.size + 1 + 1 < w2.heap.size := by omega); (try have : w.heap.size + 1 + 1 + 1 < w2.heap.size := by omega)
  have aq2 : Bk w2 (w.heap.size) 26 [.bool b, .int .u64 x1, .int .u64 x0, .int .i64 s] := by (repeat (first | (with_reducible assumption) | ((with_reducible refine Bk.new_ ?_); (first | rfl | (simp only [World.size_alloc, World.size_setCell, World.size_drew, World.heap_drewN]; done))) | (with_reducible refine Bk.alloc ?_ _) | (with_reducible refine Bk.drew ?_) | (with_reducible refine Bk.drewN ?_ _) | ((with_reducible refine Bk.far ?_ ?_ _); rotate_left; focus (simp only []; omega)) | ((with_reducible refine Bk.below ?_ (by with_reducible assumption) ?_); rotate_left; focus (go_size; done))))
  have aq2_0 := aq2.cell 0 rfl
  have aq2_1 := aq2.cell 1 rfl
  have aq2_2 := aq2.cell 2 rfl
  have aq2_3 := aq2.cell 3 rfl
  have aq2_4 := aq2.frozen 0
  have aq2_5 := aq2.frozen 1
  have aq2_6 := aq2.frozen 2
  have aq2_7 := aq2.frozen 3
  have aq2l := aq2.lt
  have cq2 : Bk w2 (w.heap.size + 1) 26 [.bool b', .int .u64 y1, .int .u64 y0, .int .i64 s'] := by (repeat (first | (with_reducible assumption) | ((with_reducible refine Bk.new_ ?_); (first | rfl | (simp only [World.size_alloc, World.size_setCell, World.size_drew, World.heap_drewN]; done))) | (with_reducible refine Bk.alloc ?_ _) | (with_reducible refine Bk.drew ?_) | (with_reducible refine Bk.drewN ?_ _) | ((with_reducible refine Bk.far ?_ ?_ _); rotate_left; focus (simp only []; omega)) | ((with_reducible refine Bk.below ?_ (by with_reducible assumption) ?_); rotate_left; focus (go_size; done))))
  have cq2_0 := cq2.cell 0 rfl
  have cq2_1 := cq2.cell 1 rfl
  have cq2_2 := cq2.cell 2 rfl
  have cq2_3 := cq2.cell 3 rfl
  have cq2_4 := cq2.frozen 0
  have cq2_5 := cq2.frozen 1
  have cq2_6 := cq2.frozen 2
  have cq2_7 := cq2.frozen 3
  have cq2l := cq2.lt
  clear hb2c hb2f
  go_wp2_with fail
  obtain ⟨gn, hgn⟩ : ∃ gn, gn = w2.heap.size := ⟨_, rfl⟩
  refine calls_named (fun W => Bk W (w.heap.size) 26 [.bool b, .int .u64 x1, .int .u64 x0, .int .i64 s] ∧ Bk W (w.heap.size + 1) 26 [.bool b', .int .u64 y1, .int .u64 y0, .int .i64 s'] ∧ Bk W w2.heap.size 26 [.bool n0, .int .u64 n1, .int .u64 n2, .int .i64 n3] ∧ Below w.heap.size w W) ⟨?h0, ?h1, ?h2, ?h3⟩ ?_
  case h0 => ((repeat (first | (with_reducible assumption) | ((with_reducible refine Bk.new_ ?_); (first | rfl | (simp only [World.size_alloc, World.size_setCell, World.size_drew, World.heap_drewN]; done))) | (with_reducible refine Bk.alloc ?_ _) | (with_reducible refine Bk.drew ?_) | (with_reducible refine Bk.drewN ?_ _) | ((with_reducible refine Bk.far ?_ ?_ _); rotate_left; focus (simp only []; omega)) | ((with_reducible refine Bk.below ?_ (by with_reducible assumption) ?_); rotate_left; focus (go_size; done)))); done)
  case h1 => ((repeat (first | (with_reducible assumption) | ((with_reducible refine Bk.new_ ?_); (first | rfl | (simp only [World.size_alloc, World.size_setCell, World.size_drew, World.heap_drewN]; done))) | (with_reducible refine Bk.alloc ?_ _) | (with_reducible refine Bk.drew ?_) | (with_reducible refine Bk.drewN ?_ _) | ((with_reducible refine Bk.far ?_ ?_ _); rotate_left; focus (simp only []; omega)) | ((with_reducible refine Bk.below ?_ (by with_reducible assumption) ?_); rotate_left; focus (go_size; done)))); done)
  case h2 => ((repeat (first | (with_reducible assumption) | ((with_reducible refine Bk.new_ ?_); (first | rfl | (simp only [World.size_alloc, World.size_setCell, World.size_drew, World.heap_drewN]; done))) | (with_reducible refine Bk.alloc ?_ _) | (with_reducible refine Bk.drew ?_) | (with_reducible refine Bk.drewN ?_ _) | ((with_reducible refine Bk.far ?_ ?_ _); rotate_left; focus (simp only []; omega)) | ((with_reducible refine Bk.below ?_ (by with_reducible assumption) ?_); rotate_left; focus (go_size; done)))); done)
  case h3 => ((repeat' (first | (with_reducible exact Below.refl _ _) | (with_reducible assumption) | (with_reducible refine Below.drew ?_) | (with_reducible refine below_drewN ?_ _) | ((with_reducible refine Below.alloc ?_ ?_ _); rotate_left; focus (go_size; done)) | ((with_reducible refine Below.setCell ?_ ?_ _); rotate_left; focus (go_size; done)) | ((with_reducible refine Below.trans ?_ (Below.mono (by with_reducible assumption) ?_)); rotate_left; focus (go_size; done)))); done)
  clear aq2_0 aq2_1 aq2_2 aq2_3 aq2_4 aq2_5 aq2_6 aq2_7
  clear cq2_0 cq2_1 cq2_2 cq2_3 cq2_4 cq2_5 cq2_6 cq2_7
  rw [← hgn]
  have gn_a : w.heap.size < gn := by omega
  have gn_c : w.heap.size + 1 < gn := by omega
  clear hgn
  try clear hb2 hb2s
  try clear aq2 aq2l
  try clear cq2 cq2l
  try clear kal
  try clear kcl
  try clear ka
  try clear kc
  try clear kw
  rintro W2 ⟨ka, kc, kn, kw⟩
  have kal := ka.lt
  have kcl := kc.lt
  have knl := kn.lt
  refine (K2.out _).mono ?_
  rintro _ w3 ⟨rfl, hb3⟩; have hb3s := hb3.size; (try simp only [World.size_alloc, World.size_setCell, World.size_drew, World.heap_drewN] at hb3s); obtain ⟨hb3c, hb3f⟩ := bcell hb3; (try have : w.heap.size < w3.heap.size := by omega); (try have : w.heap.size + 1 < w3.heap.size := by omega); (try have : w.heap.size + 1 + 1 < w3.heap.size := by omega); (try have : w.heap.size + 1 + 1 + 1 < w3.heap.size := by omega)
  have aq3 : Bk w3 (w.heap.size) 26 [.bool b, .int .u64 x1, .int .u64 x0, .int .i64 s] := by (repeat (first | (with_reducible assumption) | ((with_reducible refine Bk.new_ ?_); (first | rfl | (simp only [World.size_alloc, World.size_setCell, World.size_drew, World.heap_drewN]; done))) | (with_reducible refine Bk.alloc ?_ _) | (with_reducible refine Bk.drew ?_) | (with_reducible refine Bk.drewN ?_ _) | ((with_reducible refine Bk.far ?_ ?_ _); rotate_left; focus (simp only []; omega)) | ((with_reducible refine Bk.below ?_ (by with_reducible assumption) ?_); rotate_left; focus (go_size; done))))
  have aq3_0 := aq3.cell 0 rfl
  have aq3_1 := aq3.cell 1 rfl
  have aq3_2 := aq3.cell 2 rfl
  have aq3_3 := aq3.cell 3 rfl
  have aq3_4 := aq3.frozen 0
  have aq3_5 := aq3.frozen 1
  have aq3_6 := aq3.frozen 2
  have aq3_7 := aq3.frozen 3
  have aq3l := aq3.lt
  have cq3 : Bk w3 (w.heap.size + 1) 26 [.bool b', .int .u64 y1, .int .u64 y0, .int .i64 s'] := by (repeat (first | (with_reducible assumption) | ((with_reducible refine Bk.new_ ?_); (first | rfl | (simp only [World.size_alloc, World.size_setCell, World.size_drew, World.heap_drewN]; done))) | (with_reducible refine Bk.alloc ?_ _) | (with_reducible refine Bk.drew ?_) | (with_reducible refine Bk.drewN ?_ _) | ((with_reducible refine Bk.far ?_ ?_ _); rotate_left; focus (simp only []; omega)) | ((with_reducible refine Bk.below ?_ (by with_reducible assumption) ?_); rotate_left; focus (go_size; done))))
  have cq3_0 := cq3.cell 0 rfl
  have cq3_1 := cq3.cell 1 rfl
  have cq3_2 := cq3.cell 2 rfl
  have cq3_3 := cq3.cell 3 rfl
  have cq3_4 := cq3.frozen 0
  have cq3_5 := cq3.frozen 1
  have cq3_6 := cq3.frozen 2
  have cq3_7 := cq3.frozen 3
  have cq3l := cq3.lt
  have nq3 : Bk w3 (gn) 26 [.bool n0, .int .u64 n1, .int .u64 n2, .int .i64 n3] := by (repeat (first | (with_reducible assumption) | ((with_reducible refine Bk.new_ ?_); (first | rfl | (simp only [World.size_alloc, World.size_setCell, World.size_drew, World.heap_drewN]; done))) | (with_reducible refine Bk.alloc ?_ _) | (with_reducible refine Bk.drew ?_) | (with_reducible refine Bk.drewN ?_ _) | ((with_reducible refine Bk.far ?_ ?_ _); rotate_left; focus (simp only []; omega)) | ((with_reducible refine Bk.below ?_ (by with_reducible assumption) ?_); rotate_left; focus (go_size; done))))
  have nq3_0 := nq3.cell 0 rfl
  have nq3_1 := nq3.cell 1 rfl
  have nq3_2 := nq3.cell 2 rfl
  have nq3_3 := nq3.cell 3 rfl
  have nq3_4 := nq3.frozen 0
  have nq3_5 := nq3.frozen 1
  have nq3_6 := nq3.frozen 2
  have nq3_7 := nq3.frozen 3
  have nq3l := nq3.lt
  clear hb3c hb3f
  go_wp2_with fail
  refine calls_named (fun W => Bk W (w.heap.size) 26 [.bool b, .int .u64 x1, .int .u64 x0, .int .i64 s] ∧ Bk W (w.heap.size + 1) 26 [.bool b', .int .u64 y1, .int .u64 y0, .int .i64 s'] ∧ Bk W (gn) 26 [.bool n0, .int .u64 n1, .int .u64 n2, .int .i64 n3] ∧ Below w.heap.size w W) ⟨?h0, ?h1, ?h2, ?h3⟩ ?_
  case h0 => ((repeat (first | (with_reducible assumption) | ((with_reducible refine Bk.new_ ?_); (first | rfl | (simp only [World.size_alloc, World.size_setCell, World.size_drew, World.heap_drewN]; done))) | (with_reducible refine Bk.alloc ?_ _) | (with_reducible refine Bk.drew ?_) | (with_reducible refine Bk.drewN ?_ _) | ((with_reducible refine Bk.far ?_ ?_ _); rotate_left; focus (simp only []; omega)) | ((with_reducible refine Bk.below ?_ (by with_reducible assumption) ?_); rotate_left; focus (go_size; done)))); done)
  case h1 => ((repeat (first | (with_reducible assumption) | ((with_reducible refine Bk.new_ ?_); (first | rfl | (simp only [World.size_alloc, World.size_setCell, World.size_drew, World.heap_drewN]; done))) | (with_reducible refine Bk.alloc ?_ _) | (with_reducible refine Bk.drew ?_) | (with_reducible refine Bk.drewN ?_ _) | ((with_reducible refine Bk.far ?_ ?_ _); rotate_left; focus (simp only []; omega)) | ((with_reducible refine Bk.below ?_ (by with_reducible assumption) ?_); rotate_left; focus (go_size; done)))); done)
  case h2 => ((repeat (first | (with_reducible assumption) | ((with_reducible refine Bk.new_ ?_); (first | rfl | (simp only [World.size_alloc, World.size_setCell, World.size_drew, World.heap_drewN]; done))) | (with_reducible refine Bk.alloc ?_ _) | (with_reducible refine Bk.drew ?_) | (with_reducible refine Bk.drewN ?_ _) | ((with_reducible refine Bk.far ?_ ?_ _); rotate_left; focus (simp only []; omega)) | ((with_reducible refine Bk.below ?_ (by with_reducible assumption) ?_); rotate_left; focus (go_size; done)))); done)
  case h3 => ((repeat' (first | (with_reducible exact Below.refl _ _) | (with_reducible assumption) | (with_reducible refine Below.drew ?_) | (with_reducible refine below_drewN ?_ _) | ((with_reducible refine Below.alloc ?_ ?_ _); rotate_left; focus (go_size; done)) | ((with_reducible refine Below.setCell ?_ ?_ _); rotate_left; focus (go_size; done)) | ((with_reducible refine Below.trans ?_ (Below.mono (by with_reducible assumption) ?_)); rotate_left; focus (go_size; done)))); done)
  clear aq3_0 aq3_1 aq3_2 aq3_3 aq3_4 aq3_5 aq3_6 aq3_7
  clear cq3_0 cq3_1 cq3_2 cq3_3 cq3_4 cq3_5 cq3_6 cq3_7
  clear nq3_0 nq3_1 nq3_2 nq3_3 nq3_4 nq3_5 nq3_6 nq3_7
  try clear hb3 hb3s
  try clear aq3 aq3l
  try clear cq3 cq3l
  try clear nq3 nq3l
  try clear kal
  try clear kcl
  try clear knl
  try clear ka
  try clear kc
  try clear kn
  try clear kw
  rintro W3 ⟨ka, kc, kn, kw⟩
  have kal := ka.lt
  have kcl := kc.lt
  have knl := kn.lt
  refine (K3.out _).mono ?_
  rintro _ w4 ⟨rfl, hb4⟩; have hb4s := hb4.size; (try simp only [World.size_alloc, World.size_setCell, World.size_drew, World.heap_drewN] at hb4s); obtain ⟨hb4c, hb4f⟩ := bcell hb4; (try have : w.heap.size < w4.heap.size := by omega); (try have : w.heap.size + 1 < w4.heap.size := by omega); (try have : w.heap.size + 1 + 1 < w4.heap.size := by omega); (try have : w.heap.size + 1 + 1 + 1 < w4.heap.size := by omega)
  have aq4 : Bk w4 (w.heap.size) 26 [.bool b, .int .u64 x1, .int .u64 x0, .int .i64 s] := by (repeat (first | (with_reducible assumption) | ((with_reducible refine Bk.new_ ?_); (first | rfl | (simp only [World.size_alloc, World.size_setCell, World.size_drew, World.heap_drewN]; done))) | (with_reducible refine Bk.alloc ?_ _) | (with_reducible refine Bk.drew ?_) | (with_reducible refine Bk.drewN ?_ _) | ((with_reducible refine Bk.far ?_ ?_ _); rotate_left; focus (simp only []; omega)) | ((with_reducible refine Bk.below ?_ (by with_reducible assumption) ?_); rotate_left; focus (go_size; done))))
  have aq4_0 := aq4.cell 0 rfl
  have aq4_1 := aq4.cell 1 rfl
  have aq4_2 := aq4.cell 2 rfl
  have aq4_3 := aq4.cell 3 rfl
  have aq4_4 := aq4.frozen 0
  have aq4_5 := aq4.frozen 1
  have aq4_6 := aq4.frozen 2
  have aq4_7 := aq4.frozen 3
  have aq4l := aq4.lt
  have cq4 : Bk w4 (w.heap.size + 1) 26 [.bool b', .int .u64 y1, .int .u64 y0, .int .i64 s'] := by (repeat (first | (with_reducible assumption) | ((with_reducible refine Bk.new_ ?_); (first | rfl | (simp only [World.size_alloc, World.size_setCell, World.size_drew, World.heap_drewN]; done))) | (with_reducible refine Bk.alloc ?_ _) | (with_reducible refine Bk.drew ?_) | (with_reducible refine Bk.drewN ?_ _) | ((with_reducible refine Bk.far ?_ ?_ _); rotate_left; focus (simp only []; omega)) | ((with_reducible refine Bk.below ?_ (by with_reducible assumption) ?_); rotate_left; focus (go_size; done))))
  have cq4_0 := cq4.cell 0 rfl
  have cq4_1 := cq4.cell 1 rfl
  have cq4_2 := cq4.cell 2 rfl
  have cq4_3 := cq4.cell 3 rfl
  have cq4_4 := cq4.frozen 0
  have cq4_5 := cq4.frozen 1
  have cq4_6 := cq4.frozen 2
  have cq4_7 := cq4.frozen 3
  have cq4l := cq4.lt
  have nq4 : Bk w4 (gn) 26 [.bool n0, .int .u64 n1, .int .u64 n2, .int .i64 n3] := by (repeat (first | (with_reducible assumption) | ((with_reducible refine Bk.new_ ?_); (first | rfl | (simp only [World.size_alloc, World.size_setCell, World.size_drew, World.heap_drewN]; done))) | (with_reducible refine Bk.alloc ?_ _) | (with_reducible refine Bk.drew ?_) | (with_reducible refine Bk.drewN ?_ _) | ((with_reducible refine Bk.far ?_ ?_ _); rotate_left; focus (simp only []; omega)) | ((with_reducible refine Bk.below ?_ (by with_reducible assumption) ?_); rotate_left; focus (go_size; done))))
  have nq4_0 := nq4.cell 0 rfl
  have nq4_1 := nq4.cell 1 rfl
  have nq4_2 := nq4.cell 2 rfl
  have nq4_3 := nq4.cell 3 rfl
  have nq4_4 := nq4.frozen 0
  have nq4_5 := nq4.frozen 1
  have nq4_6 := nq4.frozen 2
  have nq4_7 := nq4.frozen 3
  have nq4l := nq4.lt
  clear hb4c hb4f
  go_wp2_with fail
  obtain ⟨gp, hgp⟩ : ∃ gp, gp = w4.heap.size := ⟨_, rfl⟩
  refine calls_named (fun W => Bk W (w.heap.size) 26 [.bool b, .int .u64 x1, .int .u64 x0, .int .i64 s] ∧ Bk W (w.heap.size + 1) 26 [.bool b', .int .u64 y1, .int .u64 y0, .int .i64 s'] ∧ Bk W (gn) 26 [.bool n0, .int .u64 n1, .int .u64 n2, .int .i64 n3] ∧ Bk W w4.heap.size 26 [.bool b, .int .u64 x1, .int .u64 x0, .int .i64 s] ∧ Below w.heap.size w W) ⟨?h0, ?h1, ?h2, ?h3, ?h4⟩ ?_
  case h0 => ((repeat (first | (with_reducible assumption) | ((with_reducible refine Bk.new_ ?_); (first | rfl | (simp only [World.size_alloc, World.size_setCell, World.size_drew, World.heap_drewN]; done))) | (with_reducible refine Bk.alloc ?_ _) | (with_reducible refine Bk.drew ?_) | (with_reducible refine Bk.drewN ?_ _) | ((with_reducible refine Bk.far ?_ ?_ _); rotate_left; focus (simp only []; omega)) | ((with_reducible refine Bk.below ?_ (by with_reducible assumption) ?_); rotate_left; focus (go_size; done)))); done)
  case h1 => ((repeat (first | (with_reducible assumption) | ((with_reducible refine Bk.new_ ?_); (first | rfl | (simp only [World.size_alloc, World.size_setCell, World.size_drew, World.heap_drewN]; done))) | (with_reducible refine Bk.alloc ?_ _) | (with_reducible refine Bk.drew ?_) | (with_reducible refine Bk.drewN ?_ _) | ((with_reducible refine Bk.far ?_ ?_ _); rotate_left; focus (simp only []; omega)) | ((with_reducible refine Bk.below ?_ (by with_reducible assumption) ?_); rotate_left; focus (go_size; done)))); done)
  case h2 => ((repeat (first | (with_reducible assumption) | ((with_reducible refine Bk.new_ ?_); (first | rfl | (simp only [World.size_alloc, World.size_setCell, World.size_drew, World.heap_drewN]; done))) | (with_reducible refine Bk.alloc ?_ _) | (with_reducible refine Bk.drew ?_) | (with_reducible refine Bk.drewN ?_ _) | ((with_reducible refine Bk.far ?_ ?_ _); rotate_left; focus (simp only []; omega)) | ((with_reducible refine Bk.below ?_ (by with_reducible assumption) ?_); rotate_left; focus (go_size; done)))); done)
  case h3 => ((repeat (first | (with_reducible assumption) | ((with_reducible refine Bk.new_ ?_); (first | rfl | (simp only [World.size_alloc, World.size_setCell, World.size_drew, World.heap_drewN]; done))) | (with_reducible refine Bk.alloc ?_ _) | (with_reducible refine Bk.drew ?_) | (with_reducible refine Bk.drewN ?_ _) | ((with_reducible refine Bk.far ?_ ?_ _); rotate_left; focus (simp only []; omega)) | ((with_reducible refine Bk.below ?_ (by with_reducible assumption) ?_); rotate_left; focus (go_size; done)))); done)
  case h4 => ((repeat' (first | (with_reducible exact Below.refl _ _) | (with_reducible assumption) | (with_reducible refine Below.drew ?_) | (with_reducible refine below_drewN ?_ _) | ((with_reducible refine Below.alloc ?_ ?_ _); rotate_left; focus (go_size; done)) | ((with_reducible refine Below.setCell ?_ ?_ _); rotate_left; focus (go_size; done)) | ((with_reducible refine Below.trans ?_ (Below.mono (by with_reducible assumption) ?_)); rotate_left; focus (go_size; done)))); done)
  clear aq4_0 aq4_1 aq4_2 aq4_3 aq4_4 aq4_5 aq4_6 aq4_7
  clear cq4_0 cq4_1 cq4_2 cq4_3 cq4_4 cq4_5 cq4_6 cq4_7
  clear nq4_0 nq4_1 nq4_2 nq4_3 nq4_4 nq4_5 nq4_6 nq4_7
  rw [← hgp]
  have gp_a : w.heap.size < gp := by omega
  have gp_c : w.heap.size + 1 < gp := by omega
  have gp_n : gn < gp := by omega
  clear hgp
  try clear hb4 hb4s
  try clear aq4 aq4l
  try clear cq4 cq4l
  try clear nq4 nq4l
  try clear kal
  try clear kcl
  try clear knl
  try clear ka
  try clear kc
  try clear kn
  try clear kw
  rintro W4 ⟨ka, kc, kn, kp, kw⟩
  have kal := ka.lt
  have kcl := kc.lt
  have knl := kn.lt
  have kpl := kp.lt
  refine (K4.out _).mono ?_
  rintro _ w5 ⟨rfl, hb5⟩; have hb5s := hb5.size; (try simp only [World.size_alloc, World.size_setCell, World.size_drew, World.heap_drewN] at hb5s); obtain ⟨hb5c, hb5f⟩ := bcell hb5; (try have : w.heap.size < w5.heap.size := by omega); (try have : w.heap.size + 1 < w5.heap.size := by omega); (try have : w.heap.size + 1 + 1 < w5.heap.size := by omega); (try have : w.heap.size + 1 + 1 + 1 < w5.heap.size := by omega)
  have aq5 : Bk w5 (w.heap.size) 26 [.bool b, .int .u64 x1, .int .u64 x0, .int .i64 s] := by (repeat (first | (with_reducible assumption) | ((with_reducible refine Bk.new_ ?_); (first | rfl | (simp only [World.size_alloc, World.size_setCell, World.size_drew, World.heap_drewN]; done))) | (with_reducible refine Bk.alloc ?_ _) | (with_reducible refine Bk.drew ?_) | (with_reducible refine Bk.drewN ?_ _) | ((with_reducible refine Bk.far ?_ ?_ _); rotate_left; focus (simp only []; omega)) | ((with_reducible refine Bk.below ?_ (by with_reducible assumption) ?_); rotate_left; focus (go_size; done))))
  have aq5_0 := aq5.cell 0 rfl
  have aq5_1 := aq5.cell 1 rfl
  have aq5_2 := aq5.cell 2 rfl
  have aq5_3 := aq5.cell 3 rfl
  have aq5_4 := aq5.frozen 0
  have aq5_5 := aq5.frozen 1
  have aq5_6 := aq5.frozen 2
  have aq5_7 := aq5.frozen 3
  have aq5l := aq5.lt
  have cq5 : Bk w5 (w.heap.size + 1) 26 [.bool b', .int .u64 y1, .int .u64 y0, .int .i64 s'] := by (repeat (first | (with_reducible assumption) | ((with_reducible refine Bk.new_ ?_); (first | rfl | (simp only [World.size_alloc, World.size_setCell, World.size_drew, World.heap_drewN]; done))) | (with_reducible refine Bk.alloc ?_ _) | (with_reducible refine Bk.drew ?_) | (with_reducible refine Bk.drewN ?_ _) | ((with_reducible refine Bk.far ?_ ?_ _); rotate_left; focus (simp only []; omega)) | ((with_reducible refine Bk.below ?_ (by with_reducible assumption) ?_); rotate_left; focus (go_size; done))))
  have cq5_0 := cq5.cell 0 rfl
  have cq5_1 := cq5.cell 1 rfl
  have cq5_2 := cq5.cell 2 rfl
  have cq5_3 := cq5.cell 3 rfl
  have cq5_4 := cq5.frozen 0
  have cq5_5 := cq5.frozen 1
  have cq5_6 := cq5.frozen 2
  have cq5_7 := cq5.frozen 3
  have cq5l := cq5.lt
  have nq5 : Bk w5 (gn) 26 [.bool n0, .int .u64 n1, .int .u64 n2, .int .i64 n3] := by (repeat (first | (with_reducible assumption) | ((with_reducible refine Bk.new_ ?_); (first | rfl | (simp only [World.size_alloc, World.size_setCell, World.size_drew, World.heap_drewN]; done))) | (with_reducible refine Bk.alloc ?_ _) | (with_reducible refine Bk.drew ?_) | (with_reducible refine Bk.drewN ?_ _) | ((with_reducible refine Bk.far ?_ ?_ _); rotate_left; focus (simp only []; omega)) | ((with_reducible refine Bk.below ?_ (by with_reducible assumption) ?_); rotate_left; focus (go_size; done))))
  have nq5_0 := nq5.cell 0 rfl
  have nq5_1 := nq5.cell 1 rfl
  have nq5_2 := nq5.cell 2 rfl
  have nq5_3 := nq5.cell 3 rfl
  have nq5_4 := nq5.frozen 0
  have nq5_5 := nq5.frozen 1
  have nq5_6 := nq5.frozen 2
  have nq5_7 := nq5.frozen 3
  have nq5l := nq5.lt
  have pq5 : Bk w5 (gp) 26 [.bool b, .int .u64 x1, .int .u64 x0, .int .i64 s] := by (repeat (first | (with_reducible assumption) | ((with_reducible refine Bk.new_ ?_); (first | rfl | (simp only [World.size_alloc, World.size_setCell, World.size_drew, World.heap_drewN]; done))) | (with_reducible refine Bk.alloc ?_ _) | (with_reducible refine Bk.drew ?_) | (with_reducible refine Bk.drewN ?_ _) | ((with_reducible refine Bk.far ?_ ?_ _); rotate_left; focus (simp only []; omega)) | ((with_reducible refine Bk.below ?_ (by with_reducible assumption) ?_); rotate_left; focus (go_size; done))))
  have pq5_0 := pq5.cell 0 rfl
  have pq5_1 := pq5.cell 1 rfl
  have pq5_2 := pq5.cell 2 rfl
  have pq5_3 := pq5.cell 3 rfl
  have pq5_4 := pq5.frozen 0
  have pq5_5 := pq5.frozen 1
  have pq5_6 := pq5.frozen 2
  have pq5_7 := pq5.frozen 3
  have pq5l := pq5.lt
  clear hb5c hb5f
  go_wp2_with fail
  refine calls_named (fun W => Bk W (w.heap.size) 26 [.bool b, .int .u64 x1, .int .u64 x0, .int .i64 s] ∧ Bk W (w.heap.size + 1) 26 [.bool b', .int .u64 y1, .int .u64 y0, .int .i64 s'] ∧ Bk W (gn) 26 [.bool n0, .int .u64 n1, .int .u64 n2, .int .i64 n3] ∧ Bk W (gp) 26 [.bool b, .int .u64 x1, .int .u64 x0, .int .i64 s] ∧ Below w.heap.size w W) ⟨?h0, ?h1, ?h2, ?h3, ?h4⟩ ?_
  case h0 => ((repeat (first | (with_reducible assumption) | ((with_reducible refine Bk.new_ ?_); (first | rfl | (simp only [World.size_alloc, World.size_setCell, World.size_drew, World.heap_drewN]; done))) | (with_reducible refine Bk.alloc ?_ _) | (with_reducible refine Bk.drew ?_) | (with_reducible refine Bk.drewN ?_ _) | ((with_reducible refine Bk.far ?_ ?_ _); rotate_left; focus (simp only []; omega)) | ((with_reducible refine Bk.below ?_ (by with_reducible assumption) ?_); rotate_left; focus (go_size; done)))); done)
  case h1 => ((repeat (first | (with_reducible assumption) | ((with_reducible refine Bk.new_ ?_); (first | rfl | (simp only [World.size_alloc, World.size_setCell, World.size_drew, World.heap_drewN]; done))) | (with_reducible refine Bk.alloc ?_ _) | (with_reducible refine Bk.drew ?_) | (with_reducible refine Bk.drewN ?_ _) | ((with_reducible refine Bk.far ?_ ?_ _); rotate_left; focus (simp only []; omega)) | ((with_reducible refine Bk.below ?_ (by with_reducible assumption) ?_); rotate_left; focus (go_size; done)))); done)
  case h2 => ((repeat (first | (with_reducible assumption) | ((with_reducible refine Bk.new_ ?_); (first | rfl | (simp only [World.size_alloc, World.size_setCell, World.size_drew, World.heap_drewN]; done))) | (with_reducible refine Bk.alloc ?_ _) | (with_reducible refine Bk.drew ?_) | (with_reducible refine Bk.drewN ?_ _) | ((with_reducible refine Bk.far ?_ ?_ _); rotate_left; focus (simp only []; omega)) | ((with_reducible refine Bk.below ?_ (by with_reducible assumption) ?_); rotate_left; focus (go_size; done)))); done)
  case h3 => ((repeat (first | (with_reducible assumption) | ((with_reducible refine Bk.new_ ?_); (first | rfl | (simp only [World.size_alloc, World.size_setCell, World.size_drew, World.heap_drewN]; done))) | (with_reducible refine Bk.alloc ?_ _) | (with_reducible refine Bk.drew ?_) | (with_reducible refine Bk.drewN ?_ _) | ((with_reducible refine Bk.far ?_ ?_ _); rotate_left; focus (simp only []; omega)) | ((with_reducible refine Bk.below ?_ (by with_reducible assumption) ?_); rotate_left; focus (go_size; done)))); done)
  case h4 => ((repeat' (first | (with_reducible exact Below.refl _ _) | (with_reducible assumption) | (with_reducible refine Below.drew ?_) | (with_reducible refine below_drewN ?_ _) | ((with_reducible refine Below.alloc ?_ ?_ _); rotate_left; focus (go_size; done)) | ((with_reducible refine Below.setCell ?_ ?_ _); rotate_left; focus (go_size; done)) | ((with_reducible refine Below.trans ?_ (Below.mono (by with_reducible assumption) ?_)); rotate_left; focus (go_size; done)))); done)
  clear aq5_0 aq5_1 aq5_2 aq5_3 aq5_4 aq5_5 aq5_6 aq5_7
  clear cq5_0 cq5_1 cq5_2 cq5_3 cq5_4 cq5_5 cq5_6 cq5_7
  clear nq5_0 nq5_1 nq5_2 nq5_3 nq5_4 nq5_5 nq5_6 nq5_7
  clear pq5_0 pq5_1 pq5_2 pq5_3 pq5_4 pq5_5 pq5_6 pq5_7
  try clear hb5 hb5s
  try clear aq5 aq5l
  try clear cq5 cq5l
  try clear nq5 nq5l
  try clear pq5 pq5l
  try clear kal
  try clear kcl
  try clear knl
  try clear kpl
  try clear ka
  try clear kc
  try clear kn
  try clear kp
  try clear kw
  rintro W5 ⟨ka, kc, kn, kp, kw⟩
  have kal := ka.lt
  have kcl := kc.lt
  have knl := kn.lt
  have kpl := kp.lt
  refine (K5.out _).mono ?_
  rintro _ w6 ⟨rfl, hb6⟩; have hb6s := hb6.size; (try simp only [World.size_alloc, World.size_setCell, World.size_drew, World.heap_drewN] at hb6s); obtain ⟨hb6c, hb6f⟩ := bcell hb6; (try have : w.heap.size < w6.heap.size := by omega); (try have : w.heap.size + 1 < w6.heap.size := by omega); (try have : w.heap.size + 1 + 1 < w6.heap.size := by omega); (try have : w.heap.size + 1 + 1 + 1 < w6.heap.size := by omega)
  have aq6 : Bk w6 (w.heap.size) 26 [.bool b, .int .u64 x1, .int .u64 x0, .int .i64 s] := by (repeat (first | (with_reducible assumption) | ((with_reducible refine Bk.new_ ?_); (first | rfl | (simp only [World.size_alloc, World.size_setCell, World.size_drew, World.heap_drewN]; done))) | (with_reducible refine Bk.alloc ?_ _) | (with_reducible refine Bk.drew ?_) | (with_reducible refine Bk.drewN ?_ _) | ((with_reducible refine Bk.far ?_ ?_ _); rotate_left; focus (simp only []; omega)) | ((with_reducible refine Bk.below ?_ (by with_reducible assumption) ?_); rotate_left; focus (go_size; done))))
  have aq6_0 := aq6.cell 0 rfl
  have aq6_1 := aq6.cell 1 rfl
  have aq6_2 := aq6.cell 2 rfl
  have aq6_3 := aq6.cell 3 rfl
  have aq6_4 := aq6.frozen 0
  have aq6_5 := aq6.frozen 1
  have aq6_6 := aq6.frozen 2
  have aq6_7 := aq6.frozen 3
  have aq6l := aq6.lt
  have cq6 : Bk w6 (w.heap.size + 1) 26 [.bool b', .int .u64 y1, .int .u64 y0, .int .i64 s'] := by (repeat (first | (with_reducible assumption) | ((with_reducible refine Bk.new_ ?_); (first | rfl | (simp only [World.size_alloc, World.size_setCell, World.size_drew, World.heap_drewN]; done))) | (with_reducible refine Bk.alloc ?_ _) | (with_reducible refine Bk.drew ?_) | (with_reducible refine Bk.drewN ?_ _) | ((with_reducible refine Bk.far ?_ ?_ _); rotate_left; focus (simp only []; omega)) | ((with_reducible refine Bk.below ?_ (by with_reducible assumption) ?_); rotate_left; focus (go_size; done))))
  have cq6_0 := cq6.cell 0 rfl
  have cq6_1 := cq6.cell 1 rfl
  have cq6_2 := cq6.cell 2 rfl
  have cq6_3 := cq6.cell 3 rfl
  have cq6_4 := cq6.frozen 0
  have cq6_5 := cq6.frozen 1
  have cq6_6 := cq6.frozen 2
  have cq6_7 := cq6.frozen 3
  have cq6l := cq6.lt
  have nq6 : Bk w6 (gn) 26 [.bool n0, .int .u64 n1, .int .u64 n2, .int .i64 n3] := by (repeat (first | (with_reducible assumption) | ((with_reducible refine Bk.new_ ?_); (first | rfl | (simp only [World.size_alloc, World.size_setCell, World.size_drew, World.heap_drewN]; done))) | (with_reducible refine Bk.alloc ?_ _) | (with_reducible refine Bk.drew ?_) | (with_reducible refine Bk.drewN ?_ _) | ((with_reducible refine Bk.far ?_ ?_ _); rotate_left; focus (simp only []; omega)) | ((with_reducible refine Bk.below ?_ (by with_reducible assumption) ?_); rotate_left; focus (go_size; done))))
  have nq6_0 := nq6.cell 0 rfl
  have nq6_1 := nq6.cell 1 rfl
  have nq6_2 := nq6.cell 2 rfl
  have nq6_3 := nq6.cell 3 rfl
  have nq6_4 := nq6.frozen 0
  have nq6_5 := nq6.frozen 1
  have nq6_6 := nq6.frozen 2
  have nq6_7 := nq6.frozen 3
  have nq6l := nq6.lt
  have pq6 : Bk w6 (gp) 26 [.bool b, .int .u64 x1, .int .u64 x0, .int .i64 s] := by (repeat (first | (with_reducible assumption) | ((with_reducible refine Bk.new_ ?_); (first | rfl | (simp only [World.size_alloc, World.size_setCell, World.size_drew, World.heap_drewN]; done))) | (with_reducible refine Bk.alloc ?_ _) | (with_reducible refine Bk.drew ?_) | (with_reducible refine Bk.drewN ?_ _) | ((with_reducible refine Bk.far ?_ ?_ _); rotate_left; focus (simp only []; omega)) | ((with_reducible refine Bk.below ?_ (by with_reducible assumption) ?_); rotate_left; focus (go_size; done))))
  have pq6_0 := pq6.cell 0 rfl
  have pq6_1 := pq6.cell 1 rfl
  have pq6_2 := pq6.cell 2 rfl
  have pq6_3 := pq6.cell 3 rfl
  have pq6_4 := pq6.frozen 0
  have pq6_5 := pq6.frozen 1
  have pq6_6 := pq6.frozen 2
  have pq6_7 := pq6.frozen 3
  have pq6l := pq6.lt
  clear hb6c hb6f
  go_wp2_with fail
  refine calls_named (fun W => Bk W (w.heap.size) 26 [.bool b, .int .u64 x1, .int .u64 x0, .int .i64 s] ∧ Bk W (w.heap.size + 1) 26 [.bool b', .int .u64 y1, .int .u64 y0, .int .i64 s'] ∧ Bk W (gn) 26 [.bool n0, .int .u64 n1, .int .u64 n2, .int .i64 n3] ∧ Bk W (gp) 26 [.bool b, .int .u64 x1, .int .u64 x0, .int .i64 s] ∧ Below w.heap.size w W) ⟨?h0, ?h1, ?h2, ?h3, ?h4⟩ ?_
  case h0 => ((repeat (first | (with_reducible assumption) | ((with_reducible refine Bk.new_ ?_); (first | rfl | (simp only [World.size_alloc, World.size_setCell, World.size_drew, World.heap_drewN]; done))) | (with_reducible refine Bk.alloc ?_ _) | (with_reducible refine Bk.drew ?_) | (with_reducible refine Bk.drewN ?_ _) | ((with_reducible refine Bk.far ?_ ?_ _); rotate_left; focus (simp only []; omega)) | ((with_reducible refine Bk.below ?_ (by with_reducible assumption) ?_); rotate_left; focus (go_size; done)))); done)
  case h1 => ((repeat (first | (with_reducible assumption) | ((with_reducible refine Bk.new_ ?_); (first | rfl | (simp only [World.size_alloc, World.size_setCell, World.size_drew, World.heap_drewN]; done))) | (with_reducible refine Bk.alloc ?_ _) | (with_reducible refine Bk.drew ?_) | (with_reducible refine Bk.drewN ?_ _) | ((with_reducible refine Bk.far ?_ ?_ _); rotate_left; focus (simp only []; omega)) | ((with_reducible refine Bk.below ?_ (by with_reducible assumption) ?_); rotate_left; focus (go_size; done)))); done)
  case h2 => ((repeat (first | (with_reducible assumption) | ((with_reducible refine Bk.new_ ?_); (first | rfl | (simp only [World.size_alloc, World.size_setCell, World.size_drew, World.heap_drewN]; done))) | (with_reducible refine Bk.alloc ?_ _) | (with_reducible refine Bk.drew ?_) | (with_reducible refine Bk.drewN ?_ _) | ((with_reducible refine Bk.far ?_ ?_ _); rotate_left; focus (simp only []; omega)) | ((with_reducible refine Bk.below ?_ (by with_reducible assumption) ?_); rotate_left; focus (go_size; done)))); done)
  case h3 => ((repeat (first | (with_reducible assumption) | ((with_reducible refine Bk.new_ ?_); (first | rfl | (simp only [World.size_alloc, World.size_setCell, World.size_drew, World.heap_drewN]; done))) | (with_reducible refine Bk.alloc ?_ _) | (with_reducible refine Bk.drew ?_) | (with_reducible refine Bk.drewN ?_ _) | ((with_reducible refine Bk.far ?_ ?_ _); rotate_left; focus (simp only []; omega)) | ((with_reducible refine Bk.below ?_ (by with_reducible assumption) ?_); rotate_left; focus (go_size; done)))); done)
  case h4 => ((repeat' (first | (with_reducible exact Below.refl _ _) | (with_reducible assumption) | (with_reducible refine Below.drew ?_) | (with_reducible refine below_drewN ?_ _) | ((with_reducible refine Below.alloc ?_ ?_ _); rotate_left; focus (go_size; done)) | ((with_reducible refine Below.setCell ?_ ?_ _); rotate_left; focus (go_size; done)) | ((with_reducible refine Below.trans ?_ (Below.mono (by with_reducible assumption) ?_)); rotate_left; focus (go_size; done)))); done)
  clear aq6_0 aq6_1 aq6_2 aq6_3 aq6_4 aq6_5 aq6_6 aq6_7
  clear cq6_0 cq6_1 cq6_2 cq6_3 cq6_4 cq6_5 cq6_6 cq6_7
  clear nq6_0 nq6_1 nq6_2 nq6_3 nq6_4 nq6_5 nq6_6 nq6_7
  clear pq6_0 pq6_1 pq6_2 pq6_3 pq6_4 pq6_5 pq6_6 pq6_7
  try clear hb6 hb6s
  try clear aq6 aq6l
  try clear cq6 cq6l
  try clear nq6 nq6l
  try clear pq6 pq6l
  try clear kal
  try clear kcl
  try clear knl
  try clear kpl
  try clear ka
  try clear kc
  try clear kn
  try clear kp
  try clear kw
  rintro W6 ⟨ka, kc, kn, kp, kw⟩
  have kal := ka.lt
  have kcl := kc.lt
  have knl := kn.lt
  have kpl := kp.lt
  cases fb
  · skip
    refine (K6.out _).mono ?_
    rintro _ w7 ⟨rfl, hb7⟩; have hb7s := hb7.size; (try simp only [World.size_alloc, World.size_setCell, World.size_drew, World.heap_drewN] at hb7s); obtain ⟨hb7c, hb7f⟩ := bcell hb7; (try have : w.heap.size < w7.heap.size := by omega); (try have : w.heap.size + 1 < w7.heap.size := by omega); (try have : w.heap.size + 1 + 1 < w7.heap.size := by omega); (try have : w.heap.size + 1 + 1 + 1 < w7.heap.size := by omega)
    have aq7 : Bk w7 (w.heap.size) 26 [.bool b, .int .u64 x1, .int .u64 x0, .int .i64 s] := by (repeat (first | (with_reducible assumption) | ((with_reducible refine Bk.new_ ?_); (first | rfl | (simp only [World.size_alloc, World.size_setCell, World.size_drew, World.heap_drewN]; done))) | (with_reducible refine Bk.alloc ?_ _) | (with_reducible refine Bk.drew ?_) | (with_reducible refine Bk.drewN ?_ _) | ((with_reducible refine Bk.far ?_ ?_ _); rotate_left; focus (simp only []; omega)) | ((with_reducible refine Bk.below ?_ (by with_reducible assumption) ?_); rotate_left; focus (go_size; done))))
    have aq7_0 := aq7.cell 0 rfl
    have aq7_1 := aq7.cell 1 rfl
    have aq7_2 := aq7.cell 2 rfl
    have aq7_3 := aq7.cell 3 rfl
    have aq7_4 := aq7.frozen 0
    have aq7_5 := aq7.frozen 1
    have aq7_6 := aq7.frozen 2
    have aq7_7 := aq7.frozen 3
    have aq7l := aq7.lt
    have cq7 : Bk w7 (w.heap.size + 1) 26 [.bool b', .int .u64 y1, .int .u64 y0, .int .i64 s'] := by (repeat (first | (with_reducible assumption) | ((with_reducible refine Bk.new_ ?_); (first | rfl | (simp only [World.size_alloc, World.size_setCell, World.size_drew, World.heap_drewN]; done))) | (with_reducible refine Bk.alloc ?_ _) | (with_reducible refine Bk.drew ?_) | (with_reducible refine Bk.drewN ?_ _) | ((with_reducible refine Bk.far ?_ ?_ _); rotate_left; focus (simp only []; omega)) | ((with_reducible refine Bk.below ?_ (by with_reducible assumption) ?_); rotate_left; focus (go_size; done))))
    have cq7_0 := cq7.cell 0 rfl
    have cq7_1 := cq7.cell 1 rfl
    have cq7_2 := cq7.cell 2 rfl
    have cq7_3 := cq7.cell 3 rfl
    have cq7_4 := cq7.frozen 0
    have cq7_5 := cq7.frozen 1
    have cq7_6 := cq7.frozen 2
    have cq7_7 := cq7.frozen 3
    have cq7l := cq7.lt
    have nq7 : Bk w7 (gn) 26 [.bool n0, .int .u64 n1, .int .u64 n2, .int .i64 n3] := by (repeat (first | (with_reducible assumption) | ((with_reducible refine Bk.new_ ?_); (first | rfl | (simp only [World.size_alloc, World.size_setCell, World.size_drew, World.heap_drewN]; done))) | (with_reducible refine Bk.alloc ?_ _) | (with_reducible refine Bk.drew ?_) | (with_reducible refine Bk.drewN ?_ _) | ((with_reducible refine Bk.far ?_ ?_ _); rotate_left; focus (simp only []; omega)) | ((with_reducible refine Bk.below ?_ (by with_reducible assumption) ?_); rotate_left; focus (go_size; done))))
    have nq7_0 := nq7.cell 0 rfl
    have nq7_1 := nq7.cell 1 rfl
    have nq7_2 := nq7.cell 2 rfl
    have nq7_3 := nq7.cell 3 rfl
    have nq7_4 := nq7.frozen 0
    have nq7_5 := nq7.frozen 1
    have nq7_6 := nq7.frozen 2
    have nq7_7 := nq7.frozen 3
    have nq7l := nq7.lt
    have pq7 : Bk w7 (gp) 26 [.bool b, .int .u64 x1, .int .u64 x0, .int .i64 s] := by (repeat (first | (with_reducible assumption) | ((with_reducible refine Bk.new_ ?_); (first | rfl | (simp only [World.size_alloc, World.size_setCell, World.size_drew, World.heap_drewN]; done))) | (with_reducible refine Bk.alloc ?_ _) | (with_reducible refine Bk.drew ?_) | (with_reducible refine Bk.drewN ?_ _) | ((with_reducible refine Bk.far ?_ ?_ _); rotate_left; focus (simp only []; omega)) | ((with_reducible refine Bk.below ?_ (by with_reducible assumption) ?_); rotate_left; focus (go_size; done))))
    have pq7_0 := pq7.cell 0 rfl
    have pq7_1 := pq7.cell 1 rfl
    have pq7_2 := pq7.cell 2 rfl
    have pq7_3 := pq7.cell 3 rfl
    have pq7_4 := pq7.frozen 0
    have pq7_5 := pq7.frozen 1
    have pq7_6 := pq7.frozen 2
    have pq7_7 := pq7.frozen 3
    have pq7l := pq7.lt
    clear hb7c hb7f
    go_wp2_with fail
    go_ret
    exact ⟨rfl, by (repeat' (first | (with_reducible exact Below.refl _ _) | (with_reducible assumption) | (with_reducible refine Below.drew ?_) | (with_reducible refine below_drewN ?_ _) | ((with_reducible refine Below.alloc ?_ ?_ _); rotate_left; focus (go_size; done)) | ((with_reducible refine Below.setCell ?_ ?_ _); rotate_left; focus (go_size; done)) | ((with_reducible refine Below.trans ?_ (Below.mono (by with_reducible assumption) ?_)); rotate_left; focus (go_size; done))))⟩
  · skip
    have L7 := Lib.hid (K7.out rfl)
    have L8 := Lib.hid (K8.out rfl)
    have hq := hxy rfl
    clear K7 K8 hxy
    have HQ := Lib.hid hq
    clear hq
    refine (K6.out _).mono ?_
    rintro _ w7 ⟨rfl, hb7⟩; have hb7s := hb7.size; (try simp only [World.size_alloc, World.size_setCell, World.size_drew, World.heap_drewN] at hb7s); obtain ⟨hb7c, hb7f⟩ := bcell hb7; (try have : w.heap.size < w7.heap.size := by omega); (try have : w.heap.size + 1 < w7.heap.size := by omega); (try have : w.heap.size + 1 + 1 < w7.heap.size := by omega); (try have : w.heap.size + 1 + 1 + 1 < w7.heap.size := by omega)
    have aq7 : Bk w7 (w.heap.size) 26 [.bool b, .int .u64 x1, .int .u64 x0, .int .i64 s] := by (repeat (first | (with_reducible assumption) | ((with_reducible refine Bk.new_ ?_); (first | rfl | (simp only [World.size_alloc, World.size_setCell, World.size_drew, World.heap_drewN]; done))) | (with_reducible refine Bk.alloc ?_ _) | (with_reducible refine Bk.drew ?_) | (with_reducible refine Bk.drewN ?_ _) | ((with_reducible refine Bk.far ?_ ?_ _); rotate_left; focus (simp only []; omega)) | ((with_reducible refine Bk.below ?_ (by with_reducible assumption) ?_); rotate_left; focus (go_size; done))))
    have aq7_0 := aq7.cell 0 rfl
    have aq7_1 := aq7.cell 1 rfl
    have aq7_2 := aq7.cell 2 rfl
    have aq7_3 := aq7.cell 3 rfl
    have aq7_4 := aq7.frozen 0
    have aq7_5 := aq7.frozen 1
    have aq7_6 := aq7.frozen 2
    have aq7_7 := aq7.frozen 3
    have aq7l := aq7.lt
    have cq7 : Bk w7 (w.heap.size + 1) 26 [.bool b', .int .u64 y1, .int .u64 y0, .int .i64 s'] := by (repeat (first | (with_reducible assumption) | ((with_reducible refine Bk.new_ ?_); (first | rfl | (simp only [World.size_alloc, World.size_setCell, World.size_drew, World.heap_drewN]; done))) | (with_reducible refine Bk.alloc ?_ _) | (with_reducible refine Bk.drew ?_) | (with_reducible refine Bk.drewN ?_ _) | ((with_reducible refine Bk.far ?_ ?_ _); rotate_left; focus (simp only []; omega)) | ((with_reducible refine Bk.below ?_ (by with_reducible assumption) ?_); rotate_left; focus (go_size; done))))
    have cq7_0 := cq7.cell 0 rfl
    have cq7_1 := cq7.cell 1 rfl
    have cq7_2 := cq7.cell 2 rfl
    have cq7_3 := cq7.cell 3 rfl
    have cq7_4 := cq7.frozen 0
    have cq7_5 := cq7.frozen 1
    have cq7_6 := cq7.frozen 2
    have cq7_7 := cq7.frozen 3
    have cq7l := cq7.lt
    have nq7 : Bk w7 (gn) 26 [.bool n0, .int .u64 n1, .int .u64 n2, .int .i64 n3] := by (repeat (first | (with_reducible assumption) | ((with_reducible refine Bk.new_ ?_); (first | rfl | (simp only [World.size_alloc, World.size_setCell, World.size_drew, World.heap_drewN]; done))) | (with_reducible refine Bk.alloc ?_ _) | (with_reducible refine Bk.drew ?_) | (with_reducible refine Bk.drewN ?_ _) | ((with_reducible refine Bk.far ?_ ?_ _); rotate_left; focus (simp only []; omega)) | ((with_reducible refine Bk.below ?_ (by with_reducible assumption) ?_); rotate_left; focus (go_size; done))))
    have nq7_0 := nq7.cell 0 rfl
    have nq7_1 := nq7.cell 1 rfl
    have nq7_2 := nq7.cell 2 rfl
    have nq7_3 := nq7.cell 3 rfl
    have nq7_4 := nq7.frozen 0
    have nq7_5 := nq7.frozen 1
    have nq7_6 := nq7.frozen 2
    have nq7_7 := nq7.frozen 3
    have nq7l := nq7.lt
    have pq7 : Bk w7 (gp) 26 [.bool b, .int .u64 x1, .int .u64 x0, .int .i64 s] := by (repeat (first | (with_reducible assumption) | ((with_reducible refine Bk.new_ ?_); (first | rfl | (simp only [World.size_alloc, World.size_setCell, World.size_drew, World.heap_drewN]; done))) | (with_reducible refine Bk.alloc ?_ _) | (with_reducible refine Bk.drew ?_) | (with_reducible refine Bk.drewN ?_ _) | ((with_reducible refine Bk.far ?_ ?_ _); rotate_left; focus (simp only []; omega)) | ((with_reducible refine Bk.below ?_ (by with_reducible assumption) ?_); rotate_left; focus (go_size; done))))
    have pq7_0 := pq7.cell 0 rfl
    have pq7_1 := pq7.cell 1 rfl
    have pq7_2 := pq7.cell 2 rfl
    have pq7_3 := pq7.cell 3 rfl
    have pq7_4 := pq7.frozen 0
    have pq7_5 := pq7.frozen 1
    have pq7_6 := pq7.frozen 2
    have pq7_7 := pq7.frozen 3
    have pq7l := pq7.lt
    clear hb7c hb7f
    go_wp2_with fail
    refine calls_named (fun W => Bk W (w.heap.size) 26 [.bool b, .int .u64 x1, .int .u64 x0, .int .i64 s] ∧ Bk W (w.heap.size + 1) 26 [.bool b', .int .u64 y1, .int .u64 y0, .int .i64 s'] ∧ Bk W (gn) 26 [.bool n0, .int .u64 n1, .int .u64 n2, .int .i64 n3] ∧ Bk W (gp) 26 [.bool b, .int .u64 x1, .int .u64 x0, .int .i64 s] ∧ Below w.heap.size w W) ⟨?h0, ?h1, ?h2, ?h3, ?h4⟩ ?_
    case h0 => ((repeat (first | (with_reducible assumption) | ((with_reducible refine Bk.new_ ?_); (first | rfl | (simp only [World.size_alloc, World.size_setCell, World.size_drew, World.heap_drewN]; done))) | (with_reducible refine Bk.alloc ?_ _) | (with_reducible refine Bk.drew ?_) | (with_reducible refine Bk.drewN ?_ _) | ((with_reducible refine Bk.far ?_ ?_ _); rotate_left; focus (simp only []; omega)) | ((with_reducible refine Bk.below ?_ (by with_reducible assumption) ?_); rotate_left; focus (go_size; done)))); done)
    case h1 => ((repeat (first | (with_reducible assumption) | ((with_reducible refine Bk.new_ ?_); (first | rfl | (simp only [World.size_alloc, World.size_setCell, World.size_drew, World.heap_drewN]; done))) | (with_reducible refine Bk.alloc ?_ _) | (with_reducible refine Bk.drew ?_) | (with_reducible refine Bk.drewN ?_ _) | ((with_reducible refine Bk.far ?_ ?_ _); rotate_left; focus (simp only []; omega)) | ((with_reducible refine Bk.below ?_ (by with_reducible assumption) ?_); rotate_left; focus (go_size; done)))); done)
    case h2 => ((repeat (first | (with_reducible assumption) | ((with_reducible refine Bk.new_ ?_); (first | rfl | (simp only [World.size_alloc, World.size_setCell, World.size_drew, World.heap_drewN]; done))) | (with_reducible refine Bk.alloc ?_ _) | (with_reducible refine Bk.drew ?_) | (with_reducible refine Bk.drewN ?_ _) | ((with_reducible refine Bk.far ?_ ?_ _); rotate_left; focus (simp only []; omega)) | ((with_reducible refine Bk.below ?_ (by with_reducible assumption) ?_); rotate_left; focus (go_size; done)))); done)
    case h3 => ((repeat (first | (with_reducible assumption) | ((with_reducible refine Bk.new_ ?_); (first | rfl | (simp only [World.size_alloc, World.size_setCell, World.size_drew, World.heap_drewN]; done))) | (with_reducible refine Bk.alloc ?_ _) | (with_reducible refine Bk.drew ?_) | (with_reducible refine Bk.drewN ?_ _) | ((with_reducible refine Bk.far ?_ ?_ _); rotate_left; focus (simp only []; omega)) | ((with_reducible refine Bk.below ?_ (by with_reducible assumption) ?_); rotate_left; focus (go_size; done)))); done)
    case h4 => ((repeat' (first | (with_reducible exact Below.refl _ _) | (with_reducible assumption) | (with_reducible refine Below.drew ?_) | (with_reducible refine below_drewN ?_ _) | ((with_reducible refine Below.alloc ?_ ?_ _); rotate_left; focus (go_size; done)) | ((with_reducible refine Below.setCell ?_ ?_ _); rotate_left; focus (go_size; done)) | ((with_reducible refine Below.trans ?_ (Below.mono (by with_reducible assumption) ?_)); rotate_left; focus (go_size; done)))); done)
    clear aq7_0 aq7_1 aq7_2 aq7_3 aq7_4 aq7_5 aq7_6 aq7_7
    clear cq7_0 cq7_1 cq7_2 cq7_3 cq7_4 cq7_5 cq7_6 cq7_7
    clear nq7_0 nq7_1 nq7_2 nq7_3 nq7_4 nq7_5 nq7_6 nq7_7
    clear pq7_0 pq7_1 pq7_2 pq7_3 pq7_4 pq7_5 pq7_6 pq7_7
    try clear hb7 hb7s
    try clear aq7 aq7l
    try clear cq7 cq7l
    try clear nq7 nq7l
    try clear pq7 pq7l
    try clear kal
    try clear kcl
    try clear knl
    try clear kpl
    try clear ka
    try clear kc
    try clear kn
    try clear kp
    try clear kw
    rintro W7 ⟨ka, kc, kn, kp, kw⟩
    have kal := ka.lt
    have kcl := kc.lt
    have knl := kn.lt
    have kpl := kp.lt
    refine (L7.out _).mono ?_
    rintro _ w8 ⟨rfl, hb8⟩; have hb8s := hb8.size; (try simp only [World.size_alloc, World.size_setCell, World.size_drew, World.heap_drewN] at hb8s); obtain ⟨hb8c, hb8f⟩ := bcell hb8; (try have : w.heap.size < w8.heap.size := by omega); (try have : w.heap.size + 1 < w8.heap.size := by omega); (try have : w.heap.size + 1 + 1 < w8.heap.size := by omega); (try have : w.heap.size + 1 + 1 + 1 < w8.heap.size := by omega)
    have aq8 : Bk w8 (w.heap.size) 26 [.bool b, .int .u64 x1, .int .u64 x0, .int .i64 s] := by (repeat (first | (with_reducible assumption) | ((with_reducible refine Bk.new_ ?_); (first | rfl | (simp only [World.size_alloc, World.size_setCell, World.size_drew, World.heap_drewN]; done))) | (with_reducible refine Bk.alloc ?_ _) | (with_reducible refine Bk.drew ?_) | (with_reducible refine Bk.drewN ?_ _) | ((with_reducible refine Bk.far ?_ ?_ _); rotate_left; focus (simp only []; omega)) | ((with_reducible refine Bk.below ?_ (by with_reducible assumption) ?_); rotate_left; focus (go_size; done))))
    have aq8_0 := aq8.cell 0 rfl
    have aq8_1 := aq8.cell 1 rfl
    have aq8_2 := aq8.cell 2 rfl
    have aq8_3 := aq8.cell 3 rfl
    have aq8_4 := aq8.frozen 0
    have aq8_5 := aq8.frozen 1
    have aq8_6 := aq8.frozen 2
    have aq8_7 := aq8.frozen 3
    have aq8l := aq8.lt
    have cq8 : Bk w8 (w.heap.size + 1) 26 [.bool b', .int .u64 y1, .int .u64 y0, .int .i64 s'] := by (repeat (first | (with_reducible assumption) | ((with_reducible refine Bk.new_ ?_); (first | rfl | (simp only [World.size_alloc, World.size_setCell, World.size_drew, World.heap_drewN]; done))) | (with_reducible refine Bk.alloc ?_ _) | (with_reducible refine Bk.drew ?_) | (with_reducible refine Bk.drewN ?_ _) | ((with_reducible refine Bk.far ?_ ?_ _); rotate_left; focus (simp only []; omega)) | ((with_reducible refine Bk.below ?_ (by with_reducible assumption) ?_); rotate_left; focus (go_size; done))))
    have cq8_0 := cq8.cell 0 rfl
    have cq8_1 := cq8.cell 1 rfl
    have cq8_2 := cq8.cell 2 rfl
    have cq8_3 := cq8.cell 3 rfl
    have cq8_4 := cq8.frozen 0
    have cq8_5 := cq8.frozen 1
    have cq8_6 := cq8.frozen 2
    have cq8_7 := cq8.frozen 3
    have cq8l := cq8.lt
    have nq8 : Bk w8 (gn) 26 [.bool n0, .int .u64 n1, .int .u64 n2, .int .i64 n3] := by (repeat (first | (with_reducible assumption) | ((with_reducible refine Bk.new_ ?_); (first | rfl | (simp only [World.size_alloc, World.size_setCell, World.size_drew, World.heap_drewN]; done))) | (with_reducible refine Bk.alloc ?_ _) | (with_reducible refine Bk.drew ?_) | (with_reducible refine Bk.drewN ?_ _) | ((with_reducible refine Bk.far ?_ ?_ _); rotate_left; focus (simp only []; omega)) | ((with_reducible refine Bk.below ?_ (by with_reducible assumption) ?_); rotate_left; focus (go_size; done))))
    have nq8_0 := nq8.cell 0 rfl
    have nq8_1 := nq8.cell 1 rfl
    have nq8_2 := nq8.cell 2 rfl
    have nq8_3 := nq8.cell 3 rfl
    have nq8_4 := nq8.frozen 0
    have nq8_5 := nq8.frozen 1
    have nq8_6 := nq8.frozen 2
    have nq8_7 := nq8.frozen 3
    have nq8l := nq8.lt
    have pq8 : Bk w8 (gp) 26 [.bool b, .int .u64 x1, .int .u64 x0, .int .i64 s] := by (repeat (first | (with_reducible assumption) | ((with_reducible refine Bk.new_ ?_); (first | rfl | (simp only [World.size_alloc, World.size_setCell, World.size_drew, World.heap_drewN]; done))) | (with_reducible refine Bk.alloc ?_ _) | (with_reducible refine Bk.drew ?_) | (with_reducible refine Bk.drewN ?_ _) | ((with_reducible refine Bk.far ?_ ?_ _); rotate_left; focus (simp only []; omega)) | ((with_reducible refine Bk.below ?_ (by with_reducible assumption) ?_); rotate_left; focus (go_size; done))))
    have pq8_0 := pq8.cell 0 rfl
    have pq8_1 := pq8.cell 1 rfl
    have pq8_2 := pq8.cell 2 rfl
    have pq8_3 := pq8.cell 3 rfl
    have pq8_4 := pq8.frozen 0
    have pq8_5 := pq8.frozen 1
    have pq8_6 := pq8.frozen 2
    have pq8_7 := pq8.frozen 3
    have pq8l := pq8.lt
    clear hb8c hb8f
    go_wp2_with fail
    refine calls_named (fun W => Bk W (w.heap.size) 26 [.bool b, .int .u64 x1, .int .u64 x0, .int .i64 s] ∧ Bk W (w.heap.size + 1) 26 [.bool b', .int .u64 y1, .int .u64 y0, .int .i64 s'] ∧ Bk W (gn) 26 [.bool n0, .int .u64 n1, .int .u64 n2, .int .i64 n3] ∧ Bk W (gp) 26 [.bool b, .int .u64 x1, .int .u64 x0, .int .i64 s] ∧ Below w.heap.size w W) ⟨?h0, ?h1, ?h2, ?h3, ?h4⟩ ?_
    case h0 => ((repeat (first | (with_reducible assumption) | ((with_reducible refine Bk.new_ ?_); (first | rfl | (simp only [World.size_alloc, World.size_setCell, World.size_drew, World.heap_drewN]; done))) | (with_reducible refine Bk.alloc ?_ _) | (with_reducible refine Bk.drew ?_) | (with_reducible refine Bk.drewN ?_ _) | ((with_reducible refine Bk.far ?_ ?_ _); rotate_left; focus (simp only []; omega)) | ((with_reducible refine Bk.below ?_ (by with_reducible assumption) ?_); rotate_left; focus (go_size; done)))); done)
    case h1 => ((repeat (first | (with_reducible assumption) | ((with_reducible refine Bk.new_ ?_); (first | rfl | (simp only [World.size_alloc, World.size_setCell, World.size_drew, World.heap_drewN]; done))) | (with_reducible refine Bk.alloc ?_ _) | (with_reducible refine Bk.drew ?_) | (with_reducible refine Bk.drewN ?_ _) | ((with_reducible refine Bk.far ?_ ?_ _); rotate_left; focus (simp only []; omega)) | ((with_reducible refine Bk.below ?_ (by with_reducible assumption) ?_); rotate_left; focus (go_size; done)))); done)
    case h2 => ((repeat (first | (with_reducible assumption) | ((with_reducible refine Bk.new_ ?_); (first | rfl | (simp only [World.size_alloc, World.size_setCell, World.size_drew, World.heap_drewN]; done))) | (with_reducible refine Bk.alloc ?_ _) | (with_reducible refine Bk.drew ?_) | (with_reducible refine Bk.drewN ?_ _) | ((with_reducible refine Bk.far ?_ ?_ _); rotate_left; focus (simp only []; omega)) | ((with_reducible refine Bk.below ?_ (by with_reducible assumption) ?_); rotate_left; focus (go_size; done)))); done)
    case h3 => ((repeat (first | (with_reducible assumption) | ((with_reducible refine Bk.new_ ?_); (first | rfl | (simp only [World.size_alloc, World.size_setCell, World.size_drew, World.heap_drewN]; done))) | (with_reducible refine Bk.alloc ?_ _) | (with_reducible refine Bk.drew ?_) | (with_reducible refine Bk.drewN ?_ _) | ((with_reducible refine Bk.far ?_ ?_ _); rotate_left; focus (simp only []; omega)) | ((with_reducible refine Bk.below ?_ (by with_reducible assumption) ?_); rotate_left; focus (go_size; done)))); done)
    case h4 => ((repeat' (first | (with_reducible exact Below.refl _ _) | (with_reducible assumption) | (with_reducible refine Below.drew ?_) | (with_reducible refine below_drewN ?_ _) | ((with_reducible refine Below.alloc ?_ ?_ _); rotate_left; focus (go_size; done)) | ((with_reducible refine Below.setCell ?_ ?_ _); rotate_left; focus (go_size; done)) | ((with_reducible refine Below.trans ?_ (Below.mono (by with_reducible assumption) ?_)); rotate_left; focus (go_size; done)))); done)
    clear aq8_0 aq8_1 aq8_2 aq8_3 aq8_4 aq8_5 aq8_6 aq8_7
    clear cq8_0 cq8_1 cq8_2 cq8_3 cq8_4 cq8_5 cq8_6 cq8_7
    clear nq8_0 nq8_1 nq8_2 nq8_3 nq8_4 nq8_5 nq8_6 nq8_7
    clear pq8_0 pq8_1 pq8_2 pq8_3 pq8_4 pq8_5 pq8_6 pq8_7
    try clear hb8 hb8s
    try clear aq8 aq8l
    try clear cq8 cq8l
    try clear nq8 nq8l
    try clear pq8 pq8l
    try clear kal
    try clear kcl
    try clear knl
    try clear kpl
    try clear ka
    try clear kc
    try clear kn
    try clear kp
    try clear kw
    rintro W8 ⟨ka, kc, kn, kp, kw⟩
    have kal := ka.lt
    have kcl := kc.lt
    have knl := kn.lt
    have kpl := kp.lt
    rcases HQ.out with hx | hx
    all_goals
      refine (L8.out _).mono ?_
      rintro _ w9 ⟨rfl, hb9⟩; have hb9s := hb9.size; (try simp only [World.size_alloc, World.size_setCell, World.size_drew, World.heap_drewN] at hb9s); obtain ⟨hb9c, hb9f⟩ := bcell hb9; (try have : w.heap.size < w9.heap.size := by omega); (try have : w.heap.size + 1 < w9.heap.size := by omega); (try have : w.heap.size + 1 + 1 < w9.heap.size := by omega); (try have : w.heap.size + 1 + 1 + 1 < w9.heap.size := by omega)
      have aq9 : Bk w9 (w.heap.size) 26 [.bool b, .int .u64 x1, .int .u64 x0, .int .i64 s] := by (repeat (first | (with_reducible assumption) | ((with_reducible refine Bk.new_ ?_); (first | rfl | (simp only [World.size_alloc, World.size_setCell, World.size_drew, World.heap_drewN]; done))) | (with_reducible refine Bk.alloc ?_ _) | (with_reducible refine Bk.drew ?_) | (with_reducible refine Bk.drewN ?_ _) | ((with_reducible refine Bk.far ?_ ?_ _); rotate_left; focus (simp only []; omega)) | ((with_reducible refine Bk.below ?_ (by with_reducible assumption) ?_); rotate_left; focus (go_size; done))))
      have aq9_0 := aq9.cell 0 rfl
      have aq9_1 := aq9.cell 1 rfl
      have aq9_2 := aq9.cell 2 rfl
      have aq9_3 := aq9.cell 3 rfl
      have aq9_4 := aq9.frozen 0
      have aq9_5 := aq9.frozen 1
      have aq9_6 := aq9.frozen 2
      have aq9_7 := aq9.frozen 3
      have aq9l := aq9.lt
      have cq9 : Bk w9 (w.heap.size + 1) 26 [.bool b', .int .u64 y1, .int .u64 y0, .int .i64 s'] := by (repeat (first | (with_reducible assumption) | ((with_reducible refine Bk.new_ ?_); (first | rfl | (simp only [World.size_alloc, World.size_setCell, World.size_drew, World.heap_drewN]; done))) | (with_reducible refine Bk.alloc ?_ _) | (with_reducible refine Bk.drew ?_) | (with_reducible refine Bk.drewN ?_ _) | ((with_reducible refine Bk.far ?_ ?_ _); rotate_left; focus (simp only []; omega)) | ((with_reducible refine Bk.below ?_ (by with_reducible assumption) ?_); rotate_left; focus (go_size; done))))
      have cq9_0 := cq9.cell 0 rfl
      have cq9_1 := cq9.cell 1 rfl
      have cq9_2 := cq9.cell 2 rfl
      have cq9_3 := cq9.cell 3 rfl
      have cq9_4 := cq9.frozen 0
      have cq9_5 := cq9.frozen 1
      have cq9_6 := cq9.frozen 2
      have cq9_7 := cq9.frozen 3
      have cq9l := cq9.lt
      have nq9 : Bk w9 (gn) 26 [.bool n0, .int .u64 n1, .int .u64 n2, .int .i64 n3] := by (repeat (first | (with_reducible assumption) | ((with_reducible refine Bk.new_ ?_); (first | rfl | (simp only [World.size_alloc, World.size_setCell, World.size_drew, World.heap_drewN]; done))) | (with_reducible refine Bk.alloc ?_ _) | (with_reducible refine Bk.drew ?_) | (with_reducible refine Bk.drewN ?_ _) | ((with_reducible refine Bk.far ?_ ?_ _); rotate_left; focus (simp only []; omega)) | ((with_reducible refine Bk.below ?_ (by with_reducible assumption) ?_); rotate_left; focus (go_size; done))))
      have nq9_0 := nq9.cell 0 rfl
      have nq9_1 := nq9.cell 1 rfl
      have nq9_2 := nq9.cell 2 rfl
      have nq9_3 := nq9.cell 3 rfl
      have nq9_4 := nq9.frozen 0
      have nq9_5 := nq9.frozen 1
      have nq9_6 := nq9.frozen 2
      have nq9_7 := nq9.frozen 3
      have nq9l := nq9.lt
      have pq9 : Bk w9 (gp) 26 [.bool b, .int .u64 x1, .int .u64 x0, .int .i64 s] := by (repeat (first | (with_reducible assumption) | ((with_reducible refine Bk.new_ ?_); (first | rfl | (simp only [World.size_alloc, World.size_setCell, World.size_drew, World.heap_drewN]; done))) | (with_reducible refine Bk.alloc ?_ _) | (with_reducible refine Bk.drew ?_) | (with_reducible refine Bk.drewN ?_ _) | ((with_reducible refine Bk.far ?_ ?_ _); rotate_left; focus (simp only []; omega)) | ((with_reducible refine Bk.below ?_ (by with_reducible assumption) ?_); rotate_left; focus (go_size; done))))
      have pq9_0 := pq9.cell 0 rfl
      have pq9_1 := pq9.cell 1 rfl
      have pq9_2 := pq9.cell 2 rfl
      have pq9_3 := pq9.cell 3 rfl
      have pq9_4 := pq9.frozen 0
      have pq9_5 := pq9.frozen 1
      have pq9_6 := pq9.frozen 2
      have pq9_7 := pq9.frozen 3
      have pq9l := pq9.lt
      clear hb9c hb9f
      go_wp2_with fail
      by_cases h0 : x ≤ 0
      all_goals
        go_wp2_with fail
        go_ret
        exact ⟨by first | rfl | simp_all, by (repeat' (first | (with_reducible exact Below.refl _ _) | (with_reducible assumption) | (with_reducible refine Below.drew ?_) | (with_reducible refine below_drewN ?_ _) | ((with_reducible refine Below.alloc ?_ ?_ _); rotate_left; focus (go_size; done)) | ((with_reducible refine Below.setCell ?_ ?_ _); rotate_left; focus (go_size; done)) | ((with_reducible refine Below.trans ?_ (Below.mono (by with_reducible assumption) ?_)); rotate_left; focus (go_size; done))))⟩
end Go.Proofs.Ythkgjodidkpaeaa

set_option linter.unusedSimpArgs false
set_option linter.unusedVariables false
namespace Go.Proofs.Ythkgjodidkpaeaa
open Go.RowKit

theorem or_two (x b : Int) (hx0 : 0 ≤ x) (hx : x < 18446744073709551616) (hb0 : 0 ≤ b) (hb : b ≤ 1) : bits .or .u64 (IntKind.u64.wrap (x * 2)) b = (2 * x + b) % 18446744073709551616 := by
  obtain ⟨x, rfl⟩ := Int.eq_ofNat_of_zero_le hx0
  obtain ⟨b, rfl⟩ := Int.eq_ofNat_of_zero_le hb0
  have e : IntKind.u64.wrap ((x : Int) * 2) = ((x % 9223372036854775808 * 2 : Nat) : Int) := by rw [IntKind.wrap_u64]; omega
  have h := or_gen 1 (x % 9223372036854775808) b (by omega)
  rw [Nat.pow_one] at h
  rw [e, or_sum _ _ (by omega) (by omega) h]
  omega
theorem dv_hi (R b : Nat) (hR : R < 2 ^ 128) (hb : b < 2) : bits .or .u64 (IntKind.u64.wrap (wd R 1 * 2)) (wd R 0 / 9223372036854775808) = wd ((2 * R + b) % 2 ^ 128) 1 := by
  have h := wd_two hR
  have a0 := wd_nn R 0
  have a1 := wd_lt R 0
  have b0 := wd_nn R 1
  have b1 := wd_lt R 1
  rw [or_two _ _ b0 b1 (by omega) (by omega), wd1 ((2 * R + b) % 2 ^ 128)]
  generalize wd R 0 = x0 at *
  generalize wd R 1 = x1 at *
  omega
theorem dv_lo (R b : Nat) (hR : R < 2 ^ 128) (hb : b < 2) : bits .or .u64 (IntKind.u64.wrap (wd R 0 * 2)) (b : Int) = wd ((2 * R + b) % 2 ^ 128) 0 := by
  have h := wd_two hR
  have a0 := wd_nn R 0
  have a1 := wd_lt R 0
  have b0 := wd_nn R 1
  have b1 := wd_lt R 1
  rw [or_two _ _ a0 a1 (by omega) (by omega), wd0 ((2 * R + b) % 2 ^ 128)]
  generalize wd R 0 = x0 at *
  generalize wd R 1 = x1 at *
  omega
theorem dv_over (R b : Nat) (hR : R < 2 ^ 128) (hb : b < 2) : (wd R 1 / 9223372036854775808 == 1) = decide (2 ^ 128 ≤ 2 * R + b) := by
  have h := wd_two hR
  have a0 := wd_nn R 0
  have a1 := wd_lt R 0
  have b0 := wd_nn R 1
  have b1 := wd_lt R 1
  rw [Bool.eq_iff_iff]
  simp only [beq_iff_eq, decide_eq_true_eq]
  generalize wd R 0 = x0 at *
  generalize wd R 1 = x1 at *
  omega
theorem dv_bit (n j : Nat) : bits .and .u64 (wd n (j / 64) / 2 ^ (j % 64)) 1 = ((n / 2 ^ j % 2 : Nat) : Int) := by
  unfold wd
  have hx : n / 2 ^ (64 * (j / 64)) % 2 ^ 64 < 18446744073709551616 := Nat.mod_lt _ (by decide)
  have hm : j % 64 < 64 := Nat.mod_lt _ (by decide)
  have e2 : n / 2 ^ (64 * (j / 64)) % 2 ^ 64 / 2 ^ (j % 64) % 2 = n / 2 ^ j % 2 := by
    have e1 : 2 ^ 64 = 2 ^ (j % 64) * 2 ^ (64 - j % 64) := by rw [← Nat.pow_add]; congr 1; omega
    have e3 : 2 ^ j = 2 ^ (64 * (j / 64)) * 2 ^ (j % 64) := by rw [← Nat.pow_add]; congr 1; omega
    rw [e1, Nat.mod_mul_right_div_self, Nat.div_div_eq_div_mul, ← e3]
    have hd : 2 ^ 1 ∣ 2 ^ (64 - j % 64) := Nat.pow_dvd_pow 2 (by omega)
    exact Nat.mod_mod_of_dvd _ hd
  rw [← e2]
  generalize n / 2 ^ (64 * (j / 64)) % 2 ^ 64 = x at *
  have e : ((x : Nat) : Int) / 2 ^ (j % 64) = ((x / 2 ^ (j % 64) : Nat) : Int) := by
    rw [Int.natCast_ediv, Int.natCast_pow]; rfl
  have hy : x / 2 ^ (j % 64) ≤ x := Nat.div_le_self _ _
  rw [e]
  generalize x / 2 ^ (j % 64) = y at *
  have h := bits_and_u64_nat y 1 (by omega) (by decide)
  rw [Nat.and_one_is_mod] at h
  have e1 : ((1 : Nat) : Int) = 1 := rfl
  rw [e1] at h
  rw [h]
theorem dv_next (N j : Nat) : N / 2 ^ j = 2 * (N / 2 ^ (j + 1)) + N / 2 ^ j % 2 := by
  rw [Nat.pow_succ, ← Nat.div_div_eq_div_mul]; omega
theorem dv_in (P D b : Nat) (hD : 0 < D) (h : D ≤ 2 * (P % D) + b) (hb : b < 2) : (2 * P + b) / D = 2 * (P / D) + 1 ∧ (2 * P + b) % D = 2 * (P % D) + b - D := by
  have hl := Nat.mod_lt P hD
  have e : 2 * P + b = (2 * (P % D) + b - D) + D * (2 * (P / D) + 1) := by
    have h1 := Nat.div_add_mod P D
    rw [Nat.mul_add, Nat.mul_left_comm]
    omega
  have hr : 2 * (P % D) + b - D < D := by omega
  rw [e, Nat.add_mul_div_left _ _ hD, Nat.div_eq_of_lt hr, Nat.zero_add, Nat.add_mul_mod_self_left, Nat.mod_eq_of_lt hr]
  exact ⟨rfl, rfl⟩
theorem dv_out (P D b : Nat) (hD : 0 < D) (h : 2 * (P % D) + b < D) : (2 * P + b) / D = 2 * (P / D) ∧ (2 * P + b) % D = 2 * (P % D) + b := by
  have e : 2 * P + b = (2 * (P % D) + b) + D * (2 * (P / D)) := by
    have h1 := Nat.div_add_mod P D
    rw [Nat.mul_left_comm]
    omega
  rw [e, Nat.add_mul_div_left _ _ hD, Nat.div_eq_of_lt h, Nat.zero_add, Nat.add_mul_mod_self_left, Nat.mod_eq_of_lt h]
  exact ⟨rfl, rfl⟩
/-- a bit that is not there is set: the word -/
theorem dv_set (Y j : Nat) : bits .or .u64 (wd (Y * 2 ^ (j + 1)) (j / 64)) (IntKind.u64.wrap (2 ^ (j % 64))) = wd (Y * 2 ^ (j + 1)) (j / 64) + 2 ^ (j % 64) ∧ wd (Y * 2 ^ (j + 1)) (j / 64) + 2 ^ (j % 64) < 18446744073709551616 := by
  have hm : j % 64 < 64 := Nat.mod_lt _ (by decide)
  have e0 : 2 ^ (j + 1) = 2 ^ (64 * (j / 64)) * 2 ^ (j % 64 + 1) := by rw [← Nat.pow_add]; congr 1; omega
  have e1 : Y * 2 ^ (j + 1) / 2 ^ (64 * (j / 64)) = Y * 2 ^ (j % 64 + 1) := by
    rw [e0, Nat.mul_left_comm, Nat.mul_div_cancel_left _ (Nat.two_pow_pos _)]
  have e2 : Y * 2 ^ (j % 64 + 1) % 2 ^ 64 = Y % 2 ^ (63 - j % 64) * 2 ^ (j % 64 + 1) := by
    have e3 : (2 : Nat) ^ 64 = 2 ^ (63 - j % 64) * 2 ^ (j % 64 + 1) := by rw [← Nat.pow_add]; congr 1; omega
    rw [e3, Nat.mul_mod_mul_right]
  unfold wd
  rw [e1, e2]
  have hlt : Y % 2 ^ (63 - j % 64) < 2 ^ (63 - j % 64) := Nat.mod_lt _ (Nat.two_pow_pos _)
  have e4 : (2 : Nat) ^ 64 = 2 ^ (63 - j % 64) * 2 ^ (j % 64 + 1) := by rw [← Nat.pow_add]; congr 1; omega
  generalize Y % 2 ^ (63 - j % 64) = a at *
  have h1 : (a + 1) * 2 ^ (j % 64 + 1) ≤ 2 ^ 64 := by rw [e4]; exact Nat.mul_le_mul_right _ hlt
  rw [Nat.add_mul, Nat.one_mul] at h1
  have h2 : (2 : Nat) ^ (j % 64 + 1) = 2 * 2 ^ (j % 64) := by rw [Nat.pow_succ]; omega
  have h3 : (0 : Nat) < 2 ^ (j % 64) := Nat.two_pow_pos _
  have e5 : (2 : Int) ^ (j % 64) = ((2 ^ (j % 64) : Nat) : Int) := by rw [Int.natCast_pow]; rfl
  have hor := or_gen (j % 64 + 1) a (2 ^ (j % 64)) (by omega)
  rw [e5]
  generalize a * 2 ^ (j % 64 + 1) = A at *
  generalize 2 ^ (j % 64) = B at *
  have e6 : IntKind.u64.wrap (B : Int) = (B : Int) := by rw [IntKind.wrap_u64]; omega
  rw [e6, or_sum A B (by omega) (by omega) hor]
  exact ⟨rfl, by omega⟩
theorem dv_cells (Y j : Nat) (hj : j < 256) (h : Y * 2 ^ (j + 1) < 2 ^ 256) :
    (lcells (Y * 2 ^ (j + 1))).set (j / 64) (.int .u64 (bits .or .u64 (wd (Y * 2 ^ (j + 1)) (j / 64)) (IntKind.u64.wrap (2 ^ (j % 64))))) = lcells ((2 * Y + 1) * 2 ^ j) := by
  obtain ⟨e, hlt⟩ := dv_set Y j
  rw [e]
  have h0 := wd_nn (Y * 2 ^ (j + 1)) (j / 64)
  have hp : (0 : Int) < 2 ^ (j % 64) := Int.pow_pos (by decide)
  obtain ⟨V', v1, v2, v3, v4, v5⟩ := lcells_set (Y * 2 ^ (j + 1)) (j / 64) (by omega) h (wd (Y * 2 ^ (j + 1)) (j / 64) + 2 ^ (j % 64)) (by omega) hlt
  rw [v3]
  congr 1
  have e1 : wd (Y * 2 ^ (j + 1)) (j / 64) + 2 ^ (j % 64) - wd (Y * 2 ^ (j + 1)) (j / 64) = ((2 ^ (j % 64) : Nat) : Int) := by
    rw [Int.natCast_pow]; show _ = (2 : Int) ^ (j % 64); omega
  rw [e1, ← Int.natCast_mul, ← Int.natCast_add, ← Nat.pow_add] at v2
  rw [show j % 64 + 64 * (j / 64) = j by omega] at v2
  have e2 : V' = Y * 2 ^ (j + 1) + 2 ^ j := by exact_mod_cast v2
  rw [e2, Nat.pow_succ, Nat.add_mul, Nat.one_mul, Nat.mul_comm (2 ^ j) 2, ← Nat.mul_assoc, Nat.mul_comm Y 2]
theorem dv_zero (Y j : Nat) : Y * 2 ^ (j + 1) = (2 * Y) * 2 ^ j := by
  rw [Nat.pow_succ, Nat.mul_comm (2 ^ j) 2, ← Nat.mul_assoc, Nat.mul_comm Y 2]
theorem dv_q256 {N : Nat} (hN : N < 2 ^ 256) (D j : Nat) : N / 2 ^ (j + 1) / D * 2 ^ (j + 1) < 2 ^ 256 := by
  have h1 : N / 2 ^ (j + 1) / D ≤ N / 2 ^ (j + 1) := Nat.div_le_self _ _
  have h2 : N / 2 ^ (j + 1) / D * 2 ^ (j + 1) ≤ N / 2 ^ (j + 1) * 2 ^ (j + 1) := Nat.mul_le_mul_right _ h1
  exact Nat.lt_of_le_of_lt (Nat.le_trans h2 (Nat.div_mul_le_self _ _)) hN
theorem dv_yes {N D j R b T : Nat} (hD : 0 < D) (eR : R = N / 2 ^ (j + 1) % D) (eb : b = N / 2 ^ j % 2) (eT : T = 2 * R + b) (hb : b < 2) (h : D ≤ T) :
    N / 2 ^ j / D = 2 * (N / 2 ^ (j + 1) / D) + 1 ∧ N / 2 ^ j % D = T - D := by
  have e := dv_next N j
  rw [← eb] at e
  have h2 := dv_in (N / 2 ^ (j + 1)) D b hD (by rw [← eR, ← eT]; exact h) hb
  rw [← eR, ← eT, ← e] at h2
  exact h2
theorem dv_no {N D j R b T : Nat} (hD : 0 < D) (eR : R = N / 2 ^ (j + 1) % D) (eb : b = N / 2 ^ j % 2) (eT : T = 2 * R + b) (h : T < D) :
    N / 2 ^ j / D = 2 * (N / 2 ^ (j + 1) / D) ∧ N / 2 ^ j % D = T := by
  have e := dv_next N j
  rw [← eb] at e
  have h2 := dv_out (N / 2 ^ (j + 1)) D b hD (by rw [← eR, ← eT]; exact h)
  rw [← eR, ← eT, ← e] at h2
  exact h2
end Go.Proofs.Ythkgjodidkpaeaa

set_option linter.unusedSimpArgs false
set_option linter.unusedVariables false
namespace Go.Proofs.Ythkgjodidkpaeaa
open Go.RowKit

theorem dv_less {D T T' R b : Nat} (hD : D < 2 ^ 128) (e1 : T' = T % 2 ^ 128) (hR : R < D) (e2 : T = 2 * R + b) (hb : b < 2) (h : D ≤ T) : lessW T' D = T - D := by
  unfold lessW
  split <;> omega
set_option maxHeartbeats 1000000 in
theorem div_zero (N : Nat) (w : World) : Calls Try.prog 78 #[.agg #[.int .u64 (wd N 0), .int .u64 (wd N 1), .int .u64 (wd N 2), .int .u64 (wd N 3)], .agg #[.int .u64 0, .int .u64 0]] w fun e w' => e = .returned (.tuple #[.agg #[.int .u64 0, .int .u64 0, .int .u64 0, .int .u64 0], .agg #[.int .u64 0, .int .u64 0], .int .i64 4]) ∧ Below w.heap.size w w' := by
  generalize wd N 0 = x0 at *
  generalize wd N 1 = x1 at *
  generalize wd N 2 = x2 at *
  generalize wd N 3 = x3 at *
  go_enter Try.func78, Try.ntmps78
  go_wp2_with fail
  refine bodyPost_ret (by simp [results, Try.results78, go_sem, *]; try rfl) rfl ?_
  exact ⟨rfl, by (repeat' (first | (with_reducible exact Below.refl _ _) | (with_reducible assumption) | (with_reducible refine Below.drew ?_) | (with_reducible refine below_drewN ?_ _) | ((with_reducible refine Below.alloc ?_ ?_ _); rotate_left; focus (go_size; done)) | ((with_reducible refine Below.setCell ?_ ?_ _); rotate_left; focus (go_size; done)) | ((with_reducible refine Below.trans ?_ (Below.mono (by with_reducible assumption) ?_)); rotate_left; focus (go_size; done))))⟩
set_option maxHeartbeats 4000000 in
theorem div_any (N D : Nat) (hN : N < 2 ^ 256) (hD : D < 2 ^ 128) (h0 : D ≠ 0) (w : World) :
    Calls Try.prog 78 #[.agg #[.int .u64 (wd N 0), .int .u64 (wd N 1), .int .u64 (wd N 2), .int .u64 (wd N 3)], .agg #[.int .u64 (wd D 1), .int .u64 (wd D 0)]] w fun e w' => e = .returned (.tuple #[.agg #[.int .u64 (wd (N / D) 0), .int .u64 (wd (N / D) 1), .int .u64 (wd (N / D) 2), .int .u64 (wd (N / D) 3)], .agg #[.int .u64 (wd (N % D) 1), .int .u64 (wd (N % D) 0)], .int .i64 0]) ∧ Below w.heap.size w w' := by
  have g0 : ((wd D 1 == 0) && (wd D 0 == 0)) = false := by
    have e := wd_eq_iff hD (show 0 < 2 ^ 128 by decide)
    rw [wd_zero, wd_zero] at e
    rw [e]; simpa using h0
  have HN := Far.mk hN
  have HD := Far.mk hD
  have H0 : Hid (0 < D) := Lib.hid (by omega)
  clear hN hD h0
  obtain ⟨d1, hd1⟩ : ∃ x, x = wd D 1 := ⟨_, rfl⟩
  obtain ⟨d0, hd0⟩ : ∃ x, x = wd D 0 := ⟨_, rfl⟩
  rw [← hd1, ← hd0] at g0 ⊢
  have q0 := fun W => eq_wide d1 d0 0 0 W
  rw [g0] at q0
  clear g0
  have E1 := Lib.hid hd1
  have E0 := Lib.hid hd0
  clear hd1 hd0
  go_enter Try.func78, Try.ntmps78
  go_wp2_with fail
  go_loopg [9] 256 (fun k i wr => k ≤ 256 ∧ i = .int .i64 ((k : Int) - 1) ∧ Bk wr (w.heap.size + 1 + 1 + 1 + 1) 45 (lcells (N / 2 ^ k / D * 2 ^ k)) ∧
    Bk wr (w.heap.size + 1 + 1 + 1 + 1 + 1) 24 [.int .u64 (wd (N / 2 ^ k % D) 1), .int .u64 (wd (N / 2 ^ k % D) 0)] ∧ Bk wr w.heap.size 45 (lcells N) ∧ Bk wr (w.heap.size + 1) 24 [.int .u64 d1, .int .u64 d0] ∧
    Bk wr (w.heap.size + 1 + 1) 45 [.int .u64 0, .int .u64 0, .int .u64 0, .int .u64 0] ∧ Bk wr (w.heap.size + 1 + 1 + 1) 24 [.int .u64 0, .int .u64 0] ∧ w.heap.size + 6 ≤ wr.heap.size ∧ Below w.heap.size w wr)
  case atStart =>
    refine ⟨Nat.le_refl _, rfl, ?_, ?_, by rw [lcells_eq]; (repeat (first | (with_reducible assumption) | ((with_reducible refine Bk.new_ ?_); (first | rfl | (simp only [World.size_alloc, World.size_setCell, World.size_drew, World.heap_drewN]; done))) | (with_reducible refine Bk.alloc ?_ _) | (with_reducible refine Bk.drew ?_) | (with_reducible refine Bk.drewN ?_ _) | ((with_reducible refine Bk.far ?_ ?_ _); rotate_left; focus (simp only []; omega)) | ((with_reducible refine Bk.below ?_ (by with_reducible assumption) ?_); rotate_left; focus (go_size; done)))), by (repeat (first | (with_reducible assumption) | ((with_reducible refine Bk.new_ ?_); (first | rfl | (simp only [World.size_alloc, World.size_setCell, World.size_drew, World.heap_drewN]; done))) | (with_reducible refine Bk.alloc ?_ _) | (with_reducible refine Bk.drew ?_) | (with_reducible refine Bk.drewN ?_ _) | ((with_reducible refine Bk.far ?_ ?_ _); rotate_left; focus (simp only []; omega)) | ((with_reducible refine Bk.below ?_ (by with_reducible assumption) ?_); rotate_left; focus (go_size; done)))), by (repeat (first | (with_reducible assumption) | ((with_reducible refine Bk.new_ ?_); (first | rfl | (simp only [World.size_alloc, World.size_setCell, World.size_drew, World.heap_drewN]; done))) | (with_reducible refine Bk.alloc ?_ _) | (with_reducible refine Bk.drew ?_) | (with_reducible refine Bk.drewN ?_ _) | ((with_reducible refine Bk.far ?_ ?_ _); rotate_left; focus (simp only []; omega)) | ((with_reducible refine Bk.below ?_ (by with_reducible assumption) ?_); rotate_left; focus (go_size; done)))), by (repeat (first | (with_reducible assumption) | ((with_reducible refine Bk.new_ ?_); (first | rfl | (simp only [World.size_alloc, World.size_setCell, World.size_drew, World.heap_drewN]; done))) | (with_reducible refine Bk.alloc ?_ _) | (with_reducible refine Bk.drew ?_) | (with_reducible refine Bk.drewN ?_ _) | ((with_reducible refine Bk.far ?_ ?_ _); rotate_left; focus (simp only []; omega)) | ((with_reducible refine Bk.below ?_ (by with_reducible assumption) ?_); rotate_left; focus (go_size; done)))), by go_size, by (repeat' (first | (with_reducible exact Below.refl _ _) | (with_reducible assumption) | (with_reducible refine Below.drew ?_) | (with_reducible refine below_drewN ?_ _) | ((with_reducible refine Below.alloc ?_ ?_ _); rotate_left; focus (go_size; done)) | ((with_reducible refine Below.setCell ?_ ?_ _); rotate_left; focus (go_size; done)) | ((with_reducible refine Below.trans ?_ (Below.mono (by with_reducible assumption) ?_)); rotate_left; focus (go_size; done))))⟩
    · rw [Nat.div_eq_of_lt HN.out, Nat.zero_div, Nat.zero_mul]
      show Bk _ _ _ [.int .u64 0, .int .u64 0, .int .u64 0, .int .u64 0]
      (repeat (first | (with_reducible assumption) | ((with_reducible refine Bk.new_ ?_); (first | rfl | (simp only [World.size_alloc, World.size_setCell, World.size_drew, World.heap_drewN]; done))) | (with_reducible refine Bk.alloc ?_ _) | (with_reducible refine Bk.drew ?_) | (with_reducible refine Bk.drewN ?_ _) | ((with_reducible refine Bk.far ?_ ?_ _); rotate_left; focus (simp only []; omega)) | ((with_reducible refine Bk.below ?_ (by with_reducible assumption) ?_); rotate_left; focus (go_size; done))))
    · rw [Nat.div_eq_of_lt HN.out, Nat.zero_mod]
      show Bk _ _ _ [.int .u64 0, .int .u64 0]
      (repeat (first | (with_reducible assumption) | ((with_reducible refine Bk.new_ ?_); (first | rfl | (simp only [World.size_alloc, World.size_setCell, World.size_drew, World.heap_drewN]; done))) | (with_reducible refine Bk.alloc ?_ _) | (with_reducible refine Bk.drew ?_) | (with_reducible refine Bk.drewN ?_ _) | ((with_reducible refine Bk.far ?_ ?_ _); rotate_left; focus (simp only []; omega)) | ((with_reducible refine Bk.below ?_ (by with_reducible assumption) ?_); rotate_left; focus (go_size; done))))
  case round =>
    obtain ⟨hk, rfl, b4, b5, b0, b1, b2, b3, hsz, hbel⟩ := hrel
    have B4 := Lib.hid b4
    have B5 := Lib.hid b5
    have B0 := Lib.hid b0
    have B1 := Lib.hid b1
    have B2 := Lib.hid b2
    have B3 := Lib.hid b3
    clear b4 b5 b0 b1 b2 b3
    (try have : w.heap.size < wr.heap.size := by omega); (try have : w.heap.size + 1 < wr.heap.size := by omega); (try have : w.heap.size + 1 + 1 < wr.heap.size := by omega); (try have : w.heap.size + 1 + 1 + 1 < wr.heap.size := by omega)
    have s4 : w.heap.size + 1 + 1 + 1 + 1 < wr.heap.size := by omega
    have s5 : w.heap.size + 1 + 1 + 1 + 1 + 1 < wr.heap.size := by omega
    by_cases hk0 : gk = 0
    · subst hk0
      have hm : ¬ (0 : Int) ≤ ((0 : Nat) : Int) - 1 := by omega
      rw [Nat.pow_zero, Nat.div_one, Nat.mul_one] at B4
      rw [Nat.pow_zero, Nat.div_one] at B5
      have b4 := B4.out
      rw [lcells_eq] at b4
      have q0 := b4.cell 0 rfl
      have q1 := b4.cell 1 rfl
      have q2 := b4.cell 2 rfl
      have q3 := b4.cell 3 rfl
      have r0 := B5.out.cell 0 rfl
      have r1 := B5.out.cell 1 rfl
      have p0 := B2.out.frozen 0
      have p1 := B2.out.frozen 1
      have p2 := B2.out.frozen 2
      have p3 := B2.out.frozen 3
      have o0 := B3.out.frozen 0
      have o1 := B3.out.frozen 1
      have u0 := B2.out.cell 0 rfl
      have u1 := B2.out.cell 1 rfl
      have u2 := B2.out.cell 2 rfl
      have u3 := B2.out.cell 3 rfl
      have v0 := B3.out.cell 0 rfl
      have v1 := B3.out.cell 1 rfl
      clear b4
      go_wp2_with fail
      go_region
      go_wp2_with fail
      refine bodyPost_ret (by simp [results, Try.results78, go_sem, *]; try rfl) rfl ?_
      exact ⟨rfl, by (repeat' (first | (with_reducible exact Below.refl _ _) | (with_reducible assumption) | (with_reducible refine Below.drew ?_) | (with_reducible refine below_drewN ?_ _) | ((with_reducible refine Below.alloc ?_ ?_ _); rotate_left; focus (go_size; done)) | ((with_reducible refine Below.setCell ?_ ?_ _); rotate_left; focus (go_size; done)) | ((with_reducible refine Below.trans ?_ (Below.mono (by with_reducible assumption) ?_)); rotate_left; focus (go_size; done))))⟩
    · obtain ⟨j, rfl⟩ : ∃ j, gk = j + 1 := ⟨gk - 1, by omega⟩
      have hp : (0 : Int) < ((j + 1 : Nat) : Int) := by omega
      have hx : ((j + 1 : Nat) : Int) - 1 = (j : Int) := by omega
      have j0 : (0 : Int) ≤ (j : Int) := by omega
      have hj : j < 256 := by omega
      obtain ⟨R, hR⟩ : ∃ R, R = N / 2 ^ (j + 1) % D := ⟨_, rfl⟩
      have hRD : R < D := by rw [hR]; exact Nat.mod_lt _ H0.out
      have hRw : R < 2 ^ 128 := Nat.lt_trans hRD HD.out
      obtain ⟨b, hb⟩ : ∃ b, b = N / 2 ^ j % 2 := ⟨_, rfl⟩
      have hb2' : b < 2 := by omega
      have L1 := Lib.hid (dv_hi R b hRw hb2')
      have L0 := Lib.hid (dv_lo R b hRw hb2')
      have LV := Lib.hid (dv_over R b hRw hb2')
      have LB := Lib.hid (dv_bit N j)
      rw [← hb] at LB
      rw [← hR] at B5
      obtain ⟨T, hT⟩ : ∃ T, T = 2 * R + b := ⟨_, rfl⟩
      obtain ⟨T', hT'⟩ : ∃ T', T' = T % 2 ^ 128 := ⟨_, rfl⟩
      rw [← hT, ← hT'] at L1 L0
      rw [← hT] at LV
      have ER := Far.mk hR
      have EB := Far.mk hb
      have ET := Far.mk hT
      have ET' := Far.mk hT'
      have ERD := Far.mk hRD
      have c5 := B5.out.cell 0 rfl
      have c5' := B5.out.cell 1 rfl
      have f5 := B5.out.frozen 0
      have f5' := B5.out.frozen 1
      have c0 : wr.cell? ⟨w.heap.size, j / 64, none⟩ = some (.int .u64 (wd N (j / 64))) := B0.out.cell _ (lcells_at N _ (by omega))
      clear hk0 hR hRD hRw hb hT hT' 
      obtain ⟨x1, hx1⟩ : ∃ x, x = wd R 1 := ⟨_, rfl⟩
      obtain ⟨x0, hx0⟩ : ∃ x, x = wd R 0 := ⟨_, rfl⟩
      rw [← hx1] at c5 L1 LV
      rw [← hx0] at c5' L1 L0
      clear hx1 hx0
      go_wp2_with fail
      go_region
      rw [LB.out, L1.out, L0.out]
      obtain ⟨y1, hy1⟩ : ∃ x, x = wd T' 1 := ⟨_, rfl⟩
      obtain ⟨y0, hy0⟩ : ∃ x, x = wd T' 0 := ⟨_, rfl⟩
      rw [← hy1, ← hy0]
      have m5 : Bk (((wr.setCell ⟨w.heap.size + 1 + 1 + 1 + 1 + 1, 0, none⟩ (.int .u64 y1)).setCell ⟨w.heap.size + 1 + 1 + 1 + 1 + 1, 1, none⟩ (.int .u64 y0)).drew) (w.heap.size + 1 + 1 + 1 + 1 + 1) 24 [.int .u64 y1, .int .u64 y0] := ((B5.out.set_ 0 _).set_ 1 _).drew
      have m4 : Bk (((wr.setCell ⟨w.heap.size + 1 + 1 + 1 + 1 + 1, 0, none⟩ (.int .u64 y1)).setCell ⟨w.heap.size + 1 + 1 + 1 + 1 + 1, 1, none⟩ (.int .u64 y0)).drew) (w.heap.size + 1 + 1 + 1 + 1) 45 (lcells (N / 2 ^ (j + 1) / D * 2 ^ (j + 1))) := ((B4.out.far (by simp only []; omega) _).far (by simp only []; omega) _).drew
      have m0 : Bk (((wr.setCell ⟨w.heap.size + 1 + 1 + 1 + 1 + 1, 0, none⟩ (.int .u64 y1)).setCell ⟨w.heap.size + 1 + 1 + 1 + 1 + 1, 1, none⟩ (.int .u64 y0)).drew) w.heap.size 45 (lcells N) := ((B0.out.far (by simp only []; omega) _).far (by simp only []; omega) _).drew
      have m1 : Bk (((wr.setCell ⟨w.heap.size + 1 + 1 + 1 + 1 + 1, 0, none⟩ (.int .u64 y1)).setCell ⟨w.heap.size + 1 + 1 + 1 + 1 + 1, 1, none⟩ (.int .u64 y0)).drew) (w.heap.size + 1) 24 [.int .u64 d1, .int .u64 d0] := ((B1.out.far (by simp only []; omega) _).far (by simp only []; omega) _).drew
      have m2 : Bk (((wr.setCell ⟨w.heap.size + 1 + 1 + 1 + 1 + 1, 0, none⟩ (.int .u64 y1)).setCell ⟨w.heap.size + 1 + 1 + 1 + 1 + 1, 1, none⟩ (.int .u64 y0)).drew) (w.heap.size + 1 + 1) 45 [.int .u64 0, .int .u64 0, .int .u64 0, .int .u64 0] := ((B2.out.far (by simp only []; omega) _).far (by simp only []; omega) _).drew
      have m3 : Bk (((wr.setCell ⟨w.heap.size + 1 + 1 + 1 + 1 + 1, 0, none⟩ (.int .u64 y1)).setCell ⟨w.heap.size + 1 + 1 + 1 + 1 + 1, 1, none⟩ (.int .u64 y0)).drew) (w.heap.size + 1 + 1 + 1) 24 [.int .u64 0, .int .u64 0] := ((B3.out.far (by simp only []; omega) _).far (by simp only []; omega) _).drew
      have ms : w.heap.size + 6 ≤ (((wr.setCell ⟨w.heap.size + 1 + 1 + 1 + 1 + 1, 0, none⟩ (.int .u64 y1)).setCell ⟨w.heap.size + 1 + 1 + 1 + 1 + 1, 1, none⟩ (.int .u64 y0)).drew).heap.size := by go_size
      have mb : Below w.heap.size w (((wr.setCell ⟨w.heap.size + 1 + 1 + 1 + 1 + 1, 0, none⟩ (.int .u64 y1)).setCell ⟨w.heap.size + 1 + 1 + 1 + 1 + 1, 1, none⟩ (.int .u64 y0)).drew) := by (repeat' (first | (with_reducible exact Below.refl _ _) | (with_reducible assumption) | (with_reducible refine Below.drew ?_) | (with_reducible refine below_drewN ?_ _) | ((with_reducible refine Below.alloc ?_ ?_ _); rotate_left; focus (go_size; done)) | ((with_reducible refine Below.setCell ?_ ?_ _); rotate_left; focus (go_size; done)) | ((with_reducible refine Below.trans ?_ (Below.mono (by with_reducible assumption) ?_)); rotate_left; focus (go_size; done))))
      generalize hw9 : (((wr.setCell ⟨w.heap.size + 1 + 1 + 1 + 1 + 1, 0, none⟩ (.int .u64 y1)).setCell ⟨w.heap.size + 1 + 1 + 1 + 1 + 1, 1, none⟩ (.int .u64 y0)).drew) = w9 at *
      clear hw9
      have M5 := Lib.hid m5
      have M4 := Lib.hid m4
      have M0 := Lib.hid m0
      have M2 := Lib.hid m2
      have M3 := Lib.hid m3
      have M1 := Lib.hid m1
      have cr0 := m5.cell 0 rfl
      have cr1 := m5.cell 1 rfl
      have fr0 := m5.frozen 0
      have fr1 := m5.frozen 1
      have cd0 := m1.cell 0 rfl
      have cd1 := m1.cell 1 rfl
      clear m5 m4 m0 m2 m3 m1 c5 c5' f5 f5' c0
      have hT1 : T' < 2 ^ 128 := by rw [ET'.out]; exact Nat.mod_lt _ (by decide)
      have GT1 := Far.mk hT1
      have EY1 := Lib.hid hy1
      have EY0 := Lib.hid hy0
      clear hT1 hy1 hy0
      obtain ⟨ov, hov⟩ : ∃ ov, ov = x1 / 9223372036854775808 := ⟨_, rfl⟩
      rw [← hov] at LV ⊢
      clear hov
      have HL := Lib.hid (fun W => less_any T' D GT1.out HD.out W)
      rw [← EY1.out, ← EY0.out, ← E1.out, ← E0.out] at HL
      have HC := Lib.hid (fun W => cmp_any T' D GT1.out HD.out W)
      rw [← EY1.out, ← EY0.out, ← E1.out, ← E0.out] at HC
      by_cases hv : (ov == 1) = true
      · go_wp2_with fail
        have hTD : D ≤ T := by
          have h1 := LV.out
          rw [hv] at h1
          have h2 : 2 ^ 128 ≤ T := of_decide_eq_true h1.symm
          exact Nat.le_trans (Nat.le_of_lt HD.out) h2
        have HTD := Far.mk hTD
        clear hTD
        refine (HL.out _).mono ?_
        rintro _ w2 ⟨rfl, hb2⟩
        have hb2s := hb2.size
        have n5 := M5.out.below hb2 (by omega)
        have n4 := M4.out.below hb2 (by omega)
        have n3 := M3.out.below hb2 (by omega)
        have n2 := M2.out.below hb2 (by omega)
        have n1 := M1.out.below hb2 (by omega)
        have n0 := M0.out.below hb2 (by omega)
        have N5 := Lib.hid n5
        have N4 := Lib.hid n4
        have N3 := Lib.hid n3
        have N2 := Lib.hid n2
        have N1 := Lib.hid n1
        have N0 := Lib.hid n0
        have nb : Below w.heap.size w w2 := by (repeat' (first | (with_reducible exact Below.refl _ _) | (with_reducible assumption) | (with_reducible refine Below.drew ?_) | (with_reducible refine below_drewN ?_ _) | ((with_reducible refine Below.alloc ?_ ?_ _); rotate_left; focus (go_size; done)) | ((with_reducible refine Below.setCell ?_ ?_ _); rotate_left; focus (go_size; done)) | ((with_reducible refine Below.trans ?_ (Below.mono (by with_reducible assumption) ?_)); rotate_left; focus (go_size; done))))
        have cr0 := n5.cell 0 rfl
        have cr1 := n5.cell 1 rfl
        have fr0 := n5.frozen 0
        have fr1 := n5.frozen 1
        have cd0 := n1.cell 0 rfl
        have cd1 := n1.cell 1 rfl
        have cq := n4.cell (j / 64) (lcells_at _ _ (by omega))
        have fq := n4.frozen (j / 64)
        have hq4 : j / 64 < 4 := by omega
        clear n5 n4 n3 n2 n1 n0
        go_wp2_with fail
        go_region
        go_wp2_with fail
        go_roundg j
        case measure => omega
        case rel =>
          obtain ⟨q1, q2⟩ := dv_yes H0.out ER.out EB.out ET.out hb2' HTD.out
          have n0 := N0.out
          have n1 := N1.out
          have n2 := N2.out
          have n3 := N3.out
          refine ⟨by omega, rfl, ?_, ?_, by (repeat (first | (with_reducible assumption) | ((with_reducible refine Bk.new_ ?_); (first | rfl | (simp only [World.size_alloc, World.size_setCell, World.size_drew, World.heap_drewN]; done))) | (with_reducible refine Bk.alloc ?_ _) | (with_reducible refine Bk.drew ?_) | (with_reducible refine Bk.drewN ?_ _) | ((with_reducible refine Bk.far ?_ ?_ _); rotate_left; focus (simp only []; omega)) | ((with_reducible refine Bk.below ?_ (by with_reducible assumption) ?_); rotate_left; focus (go_size; done)))), by (repeat (first | (with_reducible assumption) | ((with_reducible refine Bk.new_ ?_); (first | rfl | (simp only [World.size_alloc, World.size_setCell, World.size_drew, World.heap_drewN]; done))) | (with_reducible refine Bk.alloc ?_ _) | (with_reducible refine Bk.drew ?_) | (with_reducible refine Bk.drewN ?_ _) | ((with_reducible refine Bk.far ?_ ?_ _); rotate_left; focus (simp only []; omega)) | ((with_reducible refine Bk.below ?_ (by with_reducible assumption) ?_); rotate_left; focus (go_size; done)))), by (repeat (first | (with_reducible assumption) | ((with_reducible refine Bk.new_ ?_); (first | rfl | (simp only [World.size_alloc, World.size_setCell, World.size_drew, World.heap_drewN]; done))) | (with_reducible refine Bk.alloc ?_ _) | (with_reducible refine Bk.drew ?_) | (with_reducible refine Bk.drewN ?_ _) | ((with_reducible refine Bk.far ?_ ?_ _); rotate_left; focus (simp only []; omega)) | ((with_reducible refine Bk.below ?_ (by with_reducible assumption) ?_); rotate_left; focus (go_size; done)))), by (repeat (first | (with_reducible assumption) | ((with_reducible refine Bk.new_ ?_); (first | rfl | (simp only [World.size_alloc, World.size_setCell, World.size_drew, World.heap_drewN]; done))) | (with_reducible refine Bk.alloc ?_ _) | (with_reducible refine Bk.drew ?_) | (with_reducible refine Bk.drewN ?_ _) | ((with_reducible refine Bk.far ?_ ?_ _); rotate_left; focus (simp only []; omega)) | ((with_reducible refine Bk.below ?_ (by with_reducible assumption) ?_); rotate_left; focus (go_size; done)))), by go_size, by (repeat' (first | (with_reducible exact Below.refl _ _) | (with_reducible assumption) | (with_reducible refine Below.drew ?_) | (with_reducible refine below_drewN ?_ _) | ((with_reducible refine Below.alloc ?_ ?_ _); rotate_left; focus (go_size; done)) | ((with_reducible refine Below.setCell ?_ ?_ _); rotate_left; focus (go_size; done)) | ((with_reducible refine Below.trans ?_ (Below.mono (by with_reducible assumption) ?_)); rotate_left; focus (go_size; done))))⟩
          · rw [q1, ← dv_cells _ _ hj (dv_q256 HN.out D j)]
            exact (((N4.out.far (by simp only []; omega) _).far (by simp only []; omega) _).set_ _ _).drew
          · have e : lessW T' D = T - D := dv_less HD.out ET'.out ERD.out ET.out hb2' HTD.out
            rw [q2, ← e]
            exact (((N5.out.set_ 0 _).set_ 1 _).far (by simp only []; omega) _).drew
      · have hv' : (ov == 1) = false := by simpa using hv
        have hTs : T < 2 ^ 128 := by
          have h1 := LV.out
          rw [hv'] at h1
          have h2 := of_decide_eq_false h1.symm
          omega
        have HTS := Far.mk hTs
        clear hv hTs
        go_wp2_with fail
        refine (HC.out _).mono ?_
        rintro _ w3 ⟨rfl, hb3⟩
        have hb3s := hb3.size
        have M5 := Lib.hid (M5.out.below hb3 (by omega))
        have M4 := Lib.hid (M4.out.below hb3 (by omega))
        have M3 := Lib.hid (M3.out.below hb3 (by omega))
        have M2 := Lib.hid (M2.out.below hb3 (by omega))
        have M1 := Lib.hid (M1.out.below hb3 (by omega))
        have M0 := Lib.hid (M0.out.below hb3 (by omega))
        have mb : Below w.heap.size w w3 := by (repeat' (first | (with_reducible exact Below.refl _ _) | (with_reducible assumption) | (with_reducible refine Below.drew ?_) | (with_reducible refine below_drewN ?_ _) | ((with_reducible refine Below.alloc ?_ ?_ _); rotate_left; focus (go_size; done)) | ((with_reducible refine Below.setCell ?_ ?_ _); rotate_left; focus (go_size; done)) | ((with_reducible refine Below.trans ?_ (Below.mono (by with_reducible assumption) ?_)); rotate_left; focus (go_size; done))))
        have ms : w.heap.size + 6 ≤ w3.heap.size := by omega
        have cr0 := M5.out.cell 0 rfl
        have cr1 := M5.out.cell 1 rfl
        have fr0 := M5.out.frozen 0
        have fr1 := M5.out.frozen 1
        have cd0 := M1.out.cell 0 rfl
        have cd1 := M1.out.cell 1 rfl
        by_cases hge : D ≤ T'
        · have hcc : (0 : Int) ≤ cmpN T' D := by unfold cmpN; split; omega; split; omega; omega
          generalize cmpN T' D = cc at *
          have HTD : Far (D ≤ T) := Far.mk (by rw [ET'.out, Nat.mod_eq_of_lt HTS.out] at hge; exact hge)
          clear hge
          go_wp2_with fail
          refine (HL.out _).mono ?_
          rintro _ w2 ⟨rfl, hb2⟩
          have hb2s := hb2.size
          have n5 := M5.out.below hb2 (by omega)
          have n4 := M4.out.below hb2 (by omega)
          have n3 := M3.out.below hb2 (by omega)
          have n2 := M2.out.below hb2 (by omega)
          have n1 := M1.out.below hb2 (by omega)
          have n0 := M0.out.below hb2 (by omega)
          have N5 := Lib.hid n5
          have N4 := Lib.hid n4
          have N3 := Lib.hid n3
          have N2 := Lib.hid n2
          have N1 := Lib.hid n1
          have N0 := Lib.hid n0
          have nb : Below w.heap.size w w2 := by (repeat' (first | (with_reducible exact Below.refl _ _) | (with_reducible assumption) | (with_reducible refine Below.drew ?_) | (with_reducible refine below_drewN ?_ _) | ((with_reducible refine Below.alloc ?_ ?_ _); rotate_left; focus (go_size; done)) | ((with_reducible refine Below.setCell ?_ ?_ _); rotate_left; focus (go_size; done)) | ((with_reducible refine Below.trans ?_ (Below.mono (by with_reducible assumption) ?_)); rotate_left; focus (go_size; done))))
          have cr0 := n5.cell 0 rfl
          have cr1 := n5.cell 1 rfl
          have fr0 := n5.frozen 0
          have fr1 := n5.frozen 1
          have cd0 := n1.cell 0 rfl
          have cd1 := n1.cell 1 rfl
          have cq := n4.cell (j / 64) (lcells_at _ _ (by omega))
          have fq := n4.frozen (j / 64)
          have hq4 : j / 64 < 4 := by omega
          clear n5 n4 n3 n2 n1 n0
          go_wp2_with fail
          go_region
          go_wp2_with fail
          go_roundg j
          case measure => omega
          case rel =>
            obtain ⟨q1, q2⟩ := dv_yes H0.out ER.out EB.out ET.out hb2' HTD.out
            have n0 := N0.out
            have n1 := N1.out
            have n2 := N2.out
            have n3 := N3.out
            refine ⟨by omega, rfl, ?_, ?_, by (repeat (first | (with_reducible assumption) | ((with_reducible refine Bk.new_ ?_); (first | rfl | (simp only [World.size_alloc, World.size_setCell, World.size_drew, World.heap_drewN]; done))) | (with_reducible refine Bk.alloc ?_ _) | (with_reducible refine Bk.drew ?_) | (with_reducible refine Bk.drewN ?_ _) | ((with_reducible refine Bk.far ?_ ?_ _); rotate_left; focus (simp only []; omega)) | ((with_reducible refine Bk.below ?_ (by with_reducible assumption) ?_); rotate_left; focus (go_size; done)))), by (repeat (first | (with_reducible assumption) | ((with_reducible refine Bk.new_ ?_); (first | rfl | (simp only [World.size_alloc, World.size_setCell, World.size_drew, World.heap_drewN]; done))) | (with_reducible refine Bk.alloc ?_ _) | (with_reducible refine Bk.drew ?_) | (with_reducible refine Bk.drewN ?_ _) | ((with_reducible refine Bk.far ?_ ?_ _); rotate_left; focus (simp only []; omega)) | ((with_reducible refine Bk.below ?_ (by with_reducible assumption) ?_); rotate_left; focus (go_size; done)))), by (repeat (first | (with_reducible assumption) | ((with_reducible refine Bk.new_ ?_); (first | rfl | (simp only [World.size_alloc, World.size_setCell, World.size_drew, World.heap_drewN]; done))) | (with_reducible refine Bk.alloc ?_ _) | (with_reducible refine Bk.drew ?_) | (with_reducible refine Bk.drewN ?_ _) | ((with_reducible refine Bk.far ?_ ?_ _); rotate_left; focus (simp only []; omega)) | ((with_reducible refine Bk.below ?_ (by with_reducible assumption) ?_); rotate_left; focus (go_size; done)))), by (repeat (first | (with_reducible assumption) | ((with_reducible refine Bk.new_ ?_); (first | rfl | (simp only [World.size_alloc, World.size_setCell, World.size_drew, World.heap_drewN]; done))) | (with_reducible refine Bk.alloc ?_ _) | (with_reducible refine Bk.drew ?_) | (with_reducible refine Bk.drewN ?_ _) | ((with_reducible refine Bk.far ?_ ?_ _); rotate_left; focus (simp only []; omega)) | ((with_reducible refine Bk.below ?_ (by with_reducible assumption) ?_); rotate_left; focus (go_size; done)))), by go_size, by (repeat' (first | (with_reducible exact Below.refl _ _) | (with_reducible assumption) | (with_reducible refine Below.drew ?_) | (with_reducible refine below_drewN ?_ _) | ((with_reducible refine Below.alloc ?_ ?_ _); rotate_left; focus (go_size; done)) | ((with_reducible refine Below.setCell ?_ ?_ _); rotate_left; focus (go_size; done)) | ((with_reducible refine Below.trans ?_ (Below.mono (by with_reducible assumption) ?_)); rotate_left; focus (go_size; done))))⟩
            · rw [q1, ← dv_cells _ _ hj (dv_q256 HN.out D j)]
              exact (((N4.out.far (by simp only []; omega) _).far (by simp only []; omega) _).set_ _ _).drew
            · have e : lessW T' D = T - D := dv_less HD.out ET'.out ERD.out ET.out hb2' HTD.out
              rw [q2, ← e]
              exact (((N5.out.set_ 0 _).set_ 1 _).far (by simp only []; omega) _).drew
        · have hcc : ¬ (0 : Int) ≤ cmpN T' D := by unfold cmpN; split; omega; split; omega; omega
          generalize cmpN T' D = cc at *
          have HTD : Far (T < D) := Far.mk (by rw [ET'.out, Nat.mod_eq_of_lt HTS.out] at hge; omega)
          clear hge
          go_wp2_with fail
          go_roundg j
          case measure => omega
          case rel =>
            obtain ⟨q1, q2⟩ := dv_no H0.out ER.out EB.out ET.out HTD.out
            have m0 := M0.out
            have m1 := M1.out
            have m2 := M2.out
            have m3 := M3.out
            refine ⟨by omega, rfl, ?_, ?_, m0, m1, m2, m3, ms, mb⟩
            · rw [q1, ← dv_zero]; exact M4.out
            · have e : T' = T := by rw [ET'.out, Nat.mod_eq_of_lt HTS.out]
              rw [q2, ← e, ← EY1.out, ← EY0.out]; exact M5.out
end Go.Proofs.Ythkgjodidkpaeaa
