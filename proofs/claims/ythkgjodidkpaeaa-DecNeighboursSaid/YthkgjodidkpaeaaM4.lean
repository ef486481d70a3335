/- The contracts of the functions that the law reaches, part 4: what each returns and what becomes of memory. -/
import Derived.ProofKit
import Derived.OpenShut
import Derived.Lib.SmallJoins
import Derived.Laws.IdiomArrays
import Derived.ChangeArms
import Derived.WideShapes
import Derived.Test.YthkgjodidkpaeaaM1
import Derived.Test.YthkgjodidkpaeaaM2
import Derived.Test.YthkgjodidkpaeaaM3
set_option linter.unusedSimpArgs false
set_option linter.unusedVariables false
namespace Go.Proofs.Ythkgjodidkpaeaa
open Go.RowKit

theorem bound_ten {j : Nat} (h : j ≤ 18) : B34 * 10 ^ (18 - j) = 10 ^ (52 - j) := by unfold B34; rw [← Nat.pow_add]; congr 1; omega
theorem slim_add {X st : Nat} (h : X < 10 ^ 52) (hs : st ≤ 10 ^ 18) : Slim (X + st) := Slim.of_lt (k := 53) (by
  have : (10 : Nat) ^ 52 + 10 ^ 18 < 10 ^ 53 := by decide
  omega) (by decide)
set_option maxRecDepth 100000 in
set_option maxHeartbeats 4000000 in
theorem rup_any (b : Bool) (c s : Nat) (down : Bool) (hc : c < B34) (hs : s ≤ 18) (hd : down = true → c ≠ 0) (w : World) :
    Calls Try.prog 68 #[.agg #[.bool b, .int .u64 (wd (c) 1), .int .u64 (wd (c) 0), .int .i64 s], .bool down] w fun e w' => e = .returned (.tuple #[.agg #[.bool false, .int .u64 (wd ((NbC (nb c s down))) 1), .int .u64 (wd ((NbC (nb c s down))) 0), .int .i64 (NbS (nb c s down))], .int .i64 (NbE (nb c s down))]) ∧ Below w.heap.size w w' := by
  have hU : unit c s < 10 ^ 52 := unit_lt hc
  have hx0 : down = true → 0 < unit c s := fun h => Nat.mul_pos (Nat.pos_of_ne_zero (hd h)) (Nat.pow_pos (by decide))
  have HUN := Lib.hid (fun W => units_any b c s (Nat.lt_trans hc B34_lt) hs W)
  unfold RetUnits at HUN
  have H18 : Hid (∀ W, Calls Try.prog 61 #[.int .i64 18] W (RetDg (10 ^ 18) W)) := Lib.hid (fun W => one_any 18 (by decide) W)
  have H52 : Hid (∀ W, Calls Try.prog 61 #[.int .i64 52] W (RetDg (10 ^ 52) W)) := Lib.hid (fun W => one_any 52 (by decide) W)
  obtain ⟨r, hr⟩ : ∃ r, r = nb c s down := ⟨_, rfl⟩
  have ER := Far.mk hr
  unfold nb at hr
  have HR := Far.mk hr
  obtain ⟨X, hX⟩ : ∃ X, X = unit c s := ⟨_, rfl⟩
  rw [← hX] at hU hx0 HUN HR
  rw [← ER.out]
  obtain ⟨C, hC⟩ : ∃ C, C = NbC r := ⟨_, rfl⟩
  obtain ⟨S, hS⟩ : ∃ S, S = NbS r := ⟨_, rfl⟩
  obtain ⟨E, hE⟩ : ∃ E, E = NbE r := ⟨_, rfl⟩
  rw [← hC, ← hS, ← hE]
  have EC := Far.mk hC
  have ES := Far.mk hS
  have EE := Far.mk hE
  have HUU := Far.mk hU
  have SX := Lib.hid (Slim.of_lt (k := 52) hU (by decide))
  have HX0 := Lib.hid hx0
  have H19 := Far.mk (K19_eq c)
  generalize wd c 0 = x0 at *
  generalize wd c 1 = x1 at *
  clear hr hX hC hS hE hU hx0 hc hd ER
  go_enter Try.func68, Try.ntmps68
  go_wp2_with fail
  refine (HUN.out _).mono ?_
  rintro _ w1 ⟨v1, rfl, d1, hb1⟩
  have hb1s := hb1.size
  (try simp only [World.size_alloc, World.size_setCell, World.size_drew, World.heap_drewN] at hb1s)
  have Hd1 := Lib.hid d1
  have b1 : Bk w1 (w.heap.size + 1) 26 [.bool false, .int .u64 0, .int .u64 0, .int .i64 0] := by (repeat (first | (with_reducible assumption) | ((with_reducible refine Bk.new_ ?_); (first | rfl | (simp only [World.size_alloc, World.size_setCell, World.size_drew, World.heap_drewN]; done))) | (with_reducible refine Bk.alloc ?_ _) | (with_reducible refine Bk.drew ?_) | (with_reducible refine Bk.drewN ?_ _) | ((with_reducible refine Bk.far ?_ ?_ _); rotate_left; focus (simp only []; omega)) | ((with_reducible refine Bk.below ?_ (by with_reducible assumption) ?_); rotate_left; focus (go_size; done))))
  have HB1 := Lib.hid b1
  have hw1 : Below w.heap.size w w1 := by (repeat' (first | (with_reducible exact Below.refl _ _) | (with_reducible assumption) | (with_reducible refine Below.drew ?_) | (with_reducible refine below_drewN ?_ _) | ((with_reducible refine Below.alloc ?_ ?_ _); rotate_left; focus (go_size; done)) | ((with_reducible refine Below.setCell ?_ ?_ _); rotate_left; focus (go_size; done)) | ((with_reducible refine Below.trans ?_ (Below.mono (by with_reducible assumption) ?_)); rotate_left; focus (go_size; done))))
  clear d1 b1 hb1
  go_wp2_with fail
  go_loopg [8] 19 (fun kk sv wr => kk ≤ 19 ∧ sv = .int .i64 ((kk : Int) - 1) ∧ Far (r = upK X down kk) ∧ Far (kk = 19 ∨ B34 * 10 ^ (18 - kk) < X ∨ down = false) ∧ Bk wr (w.heap.size + 1) 26 [.bool false, .int .u64 0, .int .u64 0, .int .i64 0] ∧ Below w1.heap.size w1 wr)
  case atStart => exact ⟨Nat.le_refl _, rfl, Far.mk (by rw [HR.out, H19.out]), Far.mk (.inl rfl), HB1.out, Below.refl _ _⟩
  case round =>
    obtain ⟨hk19, rfl, hrr, hroom, b0, hbel⟩ := hrel
    have HB0 := Lib.hid b0
    have hbs := hbel.size
    have l0 := b0.lt
    have hbw : Below w.heap.size w wr := hw1.trans (hbel.mono (by omega))
    by_cases hz : gk = 0
    · subst hz
      have hm : ¬ (0 : Int) ≤ ((0 : Nat) : Int) - 1 := by omega
      have b0_0 := b0.cell 0 rfl
      have b0_1 := b0.cell 1 rfl
      have b0_2 := b0.cell 2 rfl
      have b0_3 := b0.cell 3 rfl
      have b0_4 := b0.frozen 0
      have b0_5 := b0.frozen 1
      have b0_6 := b0.frozen 2
      have b0_7 := b0.frozen 3
      clear b0
      go_wp2_with fail
      refine bodyPost_ret (by simp [results, Try.results68, go_sem, *]; try rfl) rfl ?_
      have e := hrr.out
      exact ⟨by rw [EC.out, ES.out, EE.out, e, show upK X down 0 = (0, false) from rfl, (nb_no 0).1, (nb_no 0).2.1, (nb_no 0).2.2, wd_zero, wd_zero]; rfl, by (repeat' (first | (with_reducible exact Below.refl _ _) | (with_reducible assumption) | (with_reducible refine Below.drew ?_) | (with_reducible refine below_drewN ?_ _) | ((with_reducible refine Below.alloc ?_ ?_ _); rotate_left; focus (go_size; done)) | ((with_reducible refine Below.setCell ?_ ?_ _); rotate_left; focus (go_size; done)) | ((with_reducible refine Below.trans ?_ (Below.mono (by with_reducible assumption) ?_)); rotate_left; focus (go_size; done))))⟩
    · obtain ⟨j, rfl⟩ : ∃ j, gk = j + 1 := ⟨gk - 1, by omega⟩
      have hx : ((j + 1 : Nat) : Int) - 1 = (j : Int) := by omega
      rw [hx]
      have j0 : (0 : Int) ≤ (j : Int) := by omega
      have j18 : (j : Int) ≤ 18 := by omega
      have jn : j ≤ 18 := by omega
      have gw : IntKind.i64.wrap (18 - (j : Int)) = 18 - (j : Int) := IntWalk.i64_in _ (by omega)
      have gv : IntKind.i64.wrap (52 - (j : Int)) = 52 - (j : Int) := IntWalk.i64_in _ (by omega)
      have HO1 : Hid (∀ W, Calls Try.prog 61 #[.int .i64 (52 - (j : Int))] W (RetDg (10 ^ (52 - j)) W)) := Lib.hid (fun W => by
        rw [show (52 : Int) - (j : Int) = ((52 - j : Nat) : Int) by omega]
        exact one_any (52 - j) (by omega) W)
      have HO2 : Hid (∀ W, Calls Try.prog 61 #[.int .i64 (18 - (j : Int))] W (RetDg (10 ^ (18 - j)) W)) := Lib.hid (fun W => by
        rw [show (18 : Int) - (j : Int) = ((18 - j : Nat) : Int) by omega]
        exact one_any (18 - j) (by omega) W)
      have S1 := Lib.hid (ten_slim (k := 52 - j) (by omega))
      have S2 := Lib.hid (ten_slim (k := 18 - j) (by omega))
      obtain ⟨st, hst⟩ : ∃ st, st = 10 ^ (18 - j) := ⟨_, rfl⟩
      obtain ⟨Bd, hB⟩ : ∃ Bd, Bd = 10 ^ (52 - j) := ⟨_, rfl⟩
      rw [← hst] at HO2 S2
      rw [← hB] at HO1 S1
      have HST := Far.mk hst
      rw [← bound_ten jn] at hB
      have HBD := Far.mk hB
      have hstl : st ≤ 10 ^ 18 := by rw [hst]; exact step_le j
      have S3 := Lib.hid (slim_add HUU.out hstl)
      clear hst hB hz hstl hx
      go_wp2_with fail
      refine (HO1.out _).mono ?_
      rintro _ w2 ⟨v2, rfl, d2, hb2⟩; have hb2s := hb2.size; (try simp only [World.size_alloc, World.size_setCell, World.size_drew, World.heap_drewN] at hb2s); obtain ⟨hb2c, hb2f⟩ := bcell hb2; (try have : w.heap.size < w2.heap.size := by omega); (try have : w.heap.size + 1 < w2.heap.size := by omega); (try have : w.heap.size + 1 + 1 < w2.heap.size := by omega); (try have : w.heap.size + 1 + 1 + 1 < w2.heap.size := by omega); have Hd2 := Lib.hid d2; clear d2
      go_wp2_with fail
      refine (rcmp_bel X Bd _ _ _ ((Hd1.out.below hbel).below hb2) Hd2.out SX.out.tiny.small S1.out.tiny.small).mono ?_
      rintro _ w3 ⟨rfl, hb3⟩; have hb3s := hb3.size; (try simp only [World.size_alloc, World.size_setCell, World.size_drew, World.heap_drewN] at hb3s); obtain ⟨hb3c, hb3f⟩ := bcell hb3; (try have : w.heap.size < w3.heap.size := by omega); (try have : w.heap.size + 1 < w3.heap.size := by omega); (try have : w.heap.size + 1 + 1 < w3.heap.size := by omega); (try have : w.heap.size + 1 + 1 + 1 < w3.heap.size := by omega)
      go_wp2_with fail
      refine (HO2.out _).mono ?_
      rintro _ w4 ⟨v4, rfl, d4, hb4⟩; have hb4s := hb4.size; (try simp only [World.size_alloc, World.size_setCell, World.size_drew, World.heap_drewN] at hb4s); obtain ⟨hb4c, hb4f⟩ := bcell hb4; (try have : w.heap.size < w4.heap.size := by omega); (try have : w.heap.size + 1 < w4.heap.size := by omega); (try have : w.heap.size + 1 + 1 < w4.heap.size := by omega); (try have : w.heap.size + 1 + 1 + 1 < w4.heap.size := by omega); have Hd4 := Lib.hid d4; clear d4
      have nw : Below w1.heap.size w1 w4 := by (repeat' (first | (with_reducible exact Below.refl _ _) | (with_reducible assumption) | (with_reducible refine Below.drew ?_) | (with_reducible refine below_drewN ?_ _) | ((with_reducible refine Below.alloc ?_ ?_ _); rotate_left; focus (go_size; done)) | ((with_reducible refine Below.setCell ?_ ?_ _); rotate_left; focus (go_size; done)) | ((with_reducible refine Below.trans ?_ (Below.mono (by with_reducible assumption) ?_)); rotate_left; focus (go_size; done))))
      have nww : Below w.heap.size w w4 := by (repeat' (first | (with_reducible exact Below.refl _ _) | (with_reducible assumption) | (with_reducible refine Below.drew ?_) | (with_reducible refine below_drewN ?_ _) | ((with_reducible refine Below.alloc ?_ ?_ _); rotate_left; focus (go_size; done)) | ((with_reducible refine Below.setCell ?_ ?_ _); rotate_left; focus (go_size; done)) | ((with_reducible refine Below.trans ?_ (Below.mono (by with_reducible assumption) ?_)); rotate_left; focus (go_size; done))))
      have n4 : Bk w4 (w.heap.size + 1) 26 [.bool false, .int .u64 0, .int .u64 0, .int .i64 0] := ((HB0.out.below hb2 (by omega)).below hb3 (by omega)).below hb4 (by omega)
      have n4l := n4.lt
      have N4 := Lib.hid n4
      have dx := Hd1.out.below nw
      have DX := Lib.hid dx
      clear dx n4 b0 hb2 hb2c hb2f hb3 hb3c hb3f hb4 hb4c hb4f hb2s hb3s hb4s hbel hbs hbw
      cases down
      · have HRR : Far (r = upK X false (j + 1)) := hrr
        by_cases hlt : X < Bd
        · have hcc : cmpN X Bd < 0 := by unfold cmpN; rw [if_neg (by omega), if_pos hlt]; decide
          generalize cmpN X Bd = cc at *
          have HLT := Far.mk hlt
          by_cases hj : j = 0
          · subst hj
            by_cases hy : X + st < 10 ^ 52
            · have hyc : cmpN (X + st) (10 ^ 52) < 0 := by unfold cmpN; rw [if_neg (by omega), if_pos hy]; decide
              have he := HRR.out
              rw [upK_up (by rw [← HBD.out]; exact HLT.out) (fun _ => by have h1 := hy; rw [HST.out] at h1; exact Nat.lt_of_lt_of_eq h1 (bound_ten (j := 0) (by decide)).symm), ← HST.out] at he
              have HE := Far.mk he
              have HY := Lib.hid (fun u v W hu hv => rcmp_bel (X + st) (10 ^ 52) u v W hu hv S3.out.tiny.small (ten_slim (k := 52) (by decide)).tiny.small)
              clear hlt he hrr hroom HRR hy
              generalize cmpN (X + st) (10 ^ 52) = c2 at *
              go_wp2_with fail
              refine (plus_any X st _ _ _ DX.out Hd4.out SX.out.tiny.small S2.out.tiny.small).mono ?_
              rintro _ w5 ⟨v5, rfl, d5, hb5⟩; have hb5s := hb5.size; (try simp only [World.size_alloc, World.size_setCell, World.size_drew, World.heap_drewN] at hb5s); obtain ⟨hb5c, hb5f⟩ := bcell hb5; (try have : w.heap.size < w5.heap.size := by omega); (try have : w.heap.size + 1 < w5.heap.size := by omega); (try have : w.heap.size + 1 + 1 < w5.heap.size := by omega); (try have : w.heap.size + 1 + 1 + 1 < w5.heap.size := by omega); have Hd5 := Lib.hid d5; clear d5
              go_wp2_with fail
              refine (H52.out _).mono ?_
              rintro _ w6 ⟨v6, rfl, d6, hb6⟩; have hb6s := hb6.size; (try simp only [World.size_alloc, World.size_setCell, World.size_drew, World.heap_drewN] at hb6s); obtain ⟨hb6c, hb6f⟩ := bcell hb6; (try have : w.heap.size < w6.heap.size := by omega); (try have : w.heap.size + 1 < w6.heap.size := by omega); (try have : w.heap.size + 1 + 1 < w6.heap.size := by omega); (try have : w.heap.size + 1 + 1 + 1 < w6.heap.size := by omega); have Hd6 := Lib.hid d6; clear d6
              go_wp2_with fail
              refine (HY.out _ _ _ (Hd5.out.below hb6) Hd6.out).mono ?_
              rintro _ w7 ⟨rfl, hb7⟩; have hb7s := hb7.size; (try simp only [World.size_alloc, World.size_setCell, World.size_drew, World.heap_drewN] at hb7s); obtain ⟨hb7c, hb7f⟩ := bcell hb7; (try have : w.heap.size < w7.heap.size := by omega); (try have : w.heap.size + 1 < w7.heap.size := by omega); (try have : w.heap.size + 1 + 1 < w7.heap.size := by omega); (try have : w.heap.size + 1 + 1 + 1 < w7.heap.size := by omega)
              have nw7 : Below w4.heap.size w4 w7 := by (repeat' (first | (with_reducible exact Below.refl _ _) | (with_reducible assumption) | (with_reducible refine Below.drew ?_) | (with_reducible refine below_drewN ?_ _) | ((with_reducible refine Below.alloc ?_ ?_ _); rotate_left; focus (go_size; done)) | ((with_reducible refine Below.setCell ?_ ?_ _); rotate_left; focus (go_size; done)) | ((with_reducible refine Below.trans ?_ (Below.mono (by with_reducible assumption) ?_)); rotate_left; focus (go_size; done))))
              clear hb5c hb5f hb6c hb6f hb7c hb7f
              go_wp2_with fail
              refine (plus_any X st _ _ _ (DX.out.below nw7) (Hd4.out.below nw7) SX.out.tiny.small S2.out.tiny.small).mono ?_
              rintro _ w8 ⟨v8, rfl, d8, hb8⟩; have hb8s := hb8.size; (try simp only [World.size_alloc, World.size_setCell, World.size_drew, World.heap_drewN] at hb8s); obtain ⟨hb8c, hb8f⟩ := bcell hb8; (try have : w.heap.size < w8.heap.size := by omega); (try have : w.heap.size + 1 < w8.heap.size := by omega); (try have : w.heap.size + 1 + 1 < w8.heap.size := by omega); (try have : w.heap.size + 1 + 1 + 1 < w8.heap.size := by omega); have Hd8 := Lib.hid d8; clear d8
              have nw8 : Below w4.heap.size w4 w8 := by (repeat' (first | (with_reducible exact Below.refl _ _) | (with_reducible assumption) | (with_reducible refine Below.drew ?_) | (with_reducible refine below_drewN ?_ _) | ((with_reducible refine Below.alloc ?_ ?_ _); rotate_left; focus (go_size; done)) | ((with_reducible refine Below.setCell ?_ ?_ _); rotate_left; focus (go_size; done)) | ((with_reducible refine Below.trans ?_ (Below.mono (by with_reducible assumption) ?_)); rotate_left; focus (go_size; done))))
              clear hb8c hb8f hb5 hb6 hb7
              go_wp2_with fail
              refine (H18.out _).mono ?_
              rintro _ w9 ⟨v9, rfl, d9, hb9⟩; have hb9s := hb9.size; (try simp only [World.size_alloc, World.size_setCell, World.size_drew, World.heap_drewN] at hb9s); obtain ⟨hb9c, hb9f⟩ := bcell hb9; (try have : w.heap.size < w9.heap.size := by omega); (try have : w.heap.size + 1 < w9.heap.size := by omega); (try have : w.heap.size + 1 + 1 < w9.heap.size := by omega); (try have : w.heap.size + 1 + 1 + 1 < w9.heap.size := by omega); have Hd9 := Lib.hid d9; clear d9
              clear hb9c hb9f
              go_wp2_with fail
              refine (rfit_any false (X + st) (10 ^ 18) _ _ _ (Hd8.out.below hb9) Hd9.out S3.out (ten_slim (k := 18) (by decide)) (Nat.pow_pos (by decide))).mono ?_
              rintro _ w10 ⟨rfl, hb10⟩; have hb10s := hb10.size; (try simp only [World.size_alloc, World.size_setCell, World.size_drew, World.heap_drewN] at hb10s); obtain ⟨hb10c, hb10f⟩ := bcell hb10; (try have : w.heap.size < w10.heap.size := by omega); (try have : w.heap.size + 1 < w10.heap.size := by omega); (try have : w.heap.size + 1 + 1 < w10.heap.size := by omega); (try have : w.heap.size + 1 + 1 + 1 < w10.heap.size := by omega)
              have n10 : Bk w10 (w.heap.size + 1) 26 [.bool false, .int .u64 0, .int .u64 0, .int .i64 0] := ((N4.out.below nw8 n4l).below hb9 (N4.out.below nw8 n4l).lt).below hb10 ((N4.out.below nw8 n4l).below hb9 (N4.out.below nw8 n4l).lt).lt
              have n10_0 := n10.cell 0 rfl
              have n10_1 := n10.cell 1 rfl
              have n10_2 := n10.cell 2 rfl
              have n10_3 := n10.cell 3 rfl
              have n10_4 := n10.frozen 0
              have n10_5 := n10.frozen 1
              have n10_6 := n10.frozen 2
              have n10_7 := n10.frozen 3
              clear hb10c hb10f
              go_wp2_with fail
              refine bodyPost_ret (by simp [results, Try.results68, go_sem, *]; try rfl) rfl ?_
              exact ⟨by rw [EC.out, ES.out, EE.out, HE.out, (nb_yes _).1, (nb_yes _).2.1, (nb_yes _).2.2, show ∀ x, sg false x = false from fun x => rfl], by (repeat' (first | (with_reducible exact Below.refl _ _) | (with_reducible assumption) | (with_reducible refine Below.drew ?_) | (with_reducible refine below_drewN ?_ _) | ((with_reducible refine Below.alloc ?_ ?_ _); rotate_left; focus (go_size; done)) | ((with_reducible refine Below.setCell ?_ ?_ _); rotate_left; focus (go_size; done)) | ((with_reducible refine Below.trans ?_ (Below.mono (by with_reducible assumption) ?_)); rotate_left; focus (go_size; done))))⟩
            · have hyc : ¬ cmpN (X + st) (10 ^ 52) < 0 := by unfold cmpN; split <;> (try split) <;> omega
              have he := HRR.out
              rw [upK_up' (by rintro ⟨_, h⟩; refine hy ?_; rw [HST.out]; exact Nat.lt_of_lt_of_eq (h rfl) (bound_ten (j := 0) (by decide)))] at he
              have HE := Far.mk he
              have HY := Lib.hid (fun u v W hu hv => rcmp_bel (X + st) (10 ^ 52) u v W hu hv S3.out.tiny.small (ten_slim (k := 52) (by decide)).tiny.small)
              clear hlt he hrr hroom HRR hy
              generalize cmpN (X + st) (10 ^ 52) = c2 at *
              go_wp2_with fail
              refine (plus_any X st _ _ _ DX.out Hd4.out SX.out.tiny.small S2.out.tiny.small).mono ?_
              rintro _ w5 ⟨v5, rfl, d5, hb5⟩; have hb5s := hb5.size; (try simp only [World.size_alloc, World.size_setCell, World.size_drew, World.heap_drewN] at hb5s); obtain ⟨hb5c, hb5f⟩ := bcell hb5; (try have : w.heap.size < w5.heap.size := by omega); (try have : w.heap.size + 1 < w5.heap.size := by omega); (try have : w.heap.size + 1 + 1 < w5.heap.size := by omega); (try have : w.heap.size + 1 + 1 + 1 < w5.heap.size := by omega); have Hd5 := Lib.hid d5; clear d5
              go_wp2_with fail
              refine (H52.out _).mono ?_
              rintro _ w6 ⟨v6, rfl, d6, hb6⟩; have hb6s := hb6.size; (try simp only [World.size_alloc, World.size_setCell, World.size_drew, World.heap_drewN] at hb6s); obtain ⟨hb6c, hb6f⟩ := bcell hb6; (try have : w.heap.size < w6.heap.size := by omega); (try have : w.heap.size + 1 < w6.heap.size := by omega); (try have : w.heap.size + 1 + 1 < w6.heap.size := by omega); (try have : w.heap.size + 1 + 1 + 1 < w6.heap.size := by omega); have Hd6 := Lib.hid d6; clear d6
              go_wp2_with fail
              refine (HY.out _ _ _ (Hd5.out.below hb6) Hd6.out).mono ?_
              rintro _ w7 ⟨rfl, hb7⟩; have hb7s := hb7.size; (try simp only [World.size_alloc, World.size_setCell, World.size_drew, World.heap_drewN] at hb7s); obtain ⟨hb7c, hb7f⟩ := bcell hb7; (try have : w.heap.size < w7.heap.size := by omega); (try have : w.heap.size + 1 < w7.heap.size := by omega); (try have : w.heap.size + 1 + 1 < w7.heap.size := by omega); (try have : w.heap.size + 1 + 1 + 1 < w7.heap.size := by omega)
              have nw7 : Below w4.heap.size w4 w7 := by (repeat' (first | (with_reducible exact Below.refl _ _) | (with_reducible assumption) | (with_reducible refine Below.drew ?_) | (with_reducible refine below_drewN ?_ _) | ((with_reducible refine Below.alloc ?_ ?_ _); rotate_left; focus (go_size; done)) | ((with_reducible refine Below.setCell ?_ ?_ _); rotate_left; focus (go_size; done)) | ((with_reducible refine Below.trans ?_ (Below.mono (by with_reducible assumption) ?_)); rotate_left; focus (go_size; done))))
              have n7 : Bk w7 (w.heap.size + 1) 26 [.bool false, .int .u64 0, .int .u64 0, .int .i64 0] := N4.out.below nw7 n4l
              have nw1 : Below w1.heap.size w1 w7 := nw.trans (nw7.mono (nw.size))
              clear hb5c hb5f hb6c hb6f hb7c hb7f hb5 hb6 hb7
              go_wp2_with fail
              go_roundg 0
              case measure => omega
              case rel => exact ⟨by omega, rfl, HE, Far.mk (by simp), n7, nw1⟩
          · have hjp : (0 : Int) < (j : Int) := by omega
            have he := HRR.out
            rw [upK_up (by rw [← HBD.out]; exact HLT.out) (fun h => absurd h hj), ← HST.out] at he
            have HE := Far.mk he
            clear hlt hj he hrr hroom HRR
            go_wp2_with fail
            refine (plus_any X st _ _ _ DX.out Hd4.out SX.out.tiny.small S2.out.tiny.small).mono ?_
            rintro _ w8 ⟨v8, rfl, d8, hb8⟩; have hb8s := hb8.size; (try simp only [World.size_alloc, World.size_setCell, World.size_drew, World.heap_drewN] at hb8s); obtain ⟨hb8c, hb8f⟩ := bcell hb8; (try have : w.heap.size < w8.heap.size := by omega); (try have : w.heap.size + 1 < w8.heap.size := by omega); (try have : w.heap.size + 1 + 1 < w8.heap.size := by omega); (try have : w.heap.size + 1 + 1 + 1 < w8.heap.size := by omega); have Hd8 := Lib.hid d8; clear d8
            have nw8 : Below w4.heap.size w4 w8 := by (repeat' (first | (with_reducible exact Below.refl _ _) | (with_reducible assumption) | (with_reducible refine Below.drew ?_) | (with_reducible refine below_drewN ?_ _) | ((with_reducible refine Below.alloc ?_ ?_ _); rotate_left; focus (go_size; done)) | ((with_reducible refine Below.setCell ?_ ?_ _); rotate_left; focus (go_size; done)) | ((with_reducible refine Below.trans ?_ (Below.mono (by with_reducible assumption) ?_)); rotate_left; focus (go_size; done))))
            clear hb8c hb8f
            go_wp2_with fail
            refine (H18.out _).mono ?_
            rintro _ w9 ⟨v9, rfl, d9, hb9⟩; have hb9s := hb9.size; (try simp only [World.size_alloc, World.size_setCell, World.size_drew, World.heap_drewN] at hb9s); obtain ⟨hb9c, hb9f⟩ := bcell hb9; (try have : w.heap.size < w9.heap.size := by omega); (try have : w.heap.size + 1 < w9.heap.size := by omega); (try have : w.heap.size + 1 + 1 < w9.heap.size := by omega); (try have : w.heap.size + 1 + 1 + 1 < w9.heap.size := by omega); have Hd9 := Lib.hid d9; clear d9
            clear hb9c hb9f
            go_wp2_with fail
            refine (rfit_any false (X + st) (10 ^ 18) _ _ _ (Hd8.out.below hb9) Hd9.out S3.out (ten_slim (k := 18) (by decide)) (Nat.pow_pos (by decide))).mono ?_
            rintro _ w10 ⟨rfl, hb10⟩; have hb10s := hb10.size; (try simp only [World.size_alloc, World.size_setCell, World.size_drew, World.heap_drewN] at hb10s); obtain ⟨hb10c, hb10f⟩ := bcell hb10; (try have : w.heap.size < w10.heap.size := by omega); (try have : w.heap.size + 1 < w10.heap.size := by omega); (try have : w.heap.size + 1 + 1 < w10.heap.size := by omega); (try have : w.heap.size + 1 + 1 + 1 < w10.heap.size := by omega)
            have n10 : Bk w10 (w.heap.size + 1) 26 [.bool false, .int .u64 0, .int .u64 0, .int .i64 0] := ((N4.out.below nw8 n4l).below hb9 (N4.out.below nw8 n4l).lt).below hb10 ((N4.out.below nw8 n4l).below hb9 (N4.out.below nw8 n4l).lt).lt
            have n10_0 := n10.cell 0 rfl
            have n10_1 := n10.cell 1 rfl
            have n10_2 := n10.cell 2 rfl
            have n10_3 := n10.cell 3 rfl
            have n10_4 := n10.frozen 0
            have n10_5 := n10.frozen 1
            have n10_6 := n10.frozen 2
            have n10_7 := n10.frozen 3
            clear hb10c hb10f
            go_wp2_with fail
            refine bodyPost_ret (by simp [results, Try.results68, go_sem, *]; try rfl) rfl ?_
            exact ⟨by rw [EC.out, ES.out, EE.out, HE.out, (nb_yes _).1, (nb_yes _).2.1, (nb_yes _).2.2, show ∀ x, sg false x = false from fun x => rfl], by (repeat' (first | (with_reducible exact Below.refl _ _) | (with_reducible assumption) | (with_reducible refine Below.drew ?_) | (with_reducible refine below_drewN ?_ _) | ((with_reducible refine Below.alloc ?_ ?_ _); rotate_left; focus (go_size; done)) | ((with_reducible refine Below.setCell ?_ ?_ _); rotate_left; focus (go_size; done)) | ((with_reducible refine Below.trans ?_ (Below.mono (by with_reducible assumption) ?_)); rotate_left; focus (go_size; done))))⟩
        · have hcc : ¬ cmpN X Bd < 0 := by unfold cmpN; split <;> (try split) <;> omega
          generalize cmpN X Bd = cc at *
          have he := HRR.out
          rw [upK_up' (by rw [← HBD.out]; rintro ⟨h, _⟩; exact hlt h)] at he
          have HE := Far.mk he
          clear hlt he hrr hroom HRR
          go_wp2_with fail
          go_roundg j
          case measure => omega
          case rel => exact ⟨by omega, rfl, HE, Far.mk (by simp), N4.out, nw⟩
      · have HRR : Far (r = upK X true (j + 1)) := hrr
        by_cases hle : X ≤ Bd
        · have hcc : cmpN X Bd ≤ 0 := by unfold cmpN; split <;> (try split) <;> omega
          have hroom2 : st ≤ X := by
            rw [HST.out]
            refine down_room (HX0.out rfl) jn ?_
            rcases hroom.out with h | h | h
            · left; omega
            · right; exact h
            · cases h
          generalize cmpN X Bd = cc at *
          have he := HRR.out
          rw [upK_down (by rw [← HBD.out]; exact hle), ← HST.out] at he
          have HE := Far.mk he
          have HRM := Lib.hid hroom2
          have S4 := Lib.hid (show Slim (X - st) from fun t => Nat.lt_of_le_of_lt (Nat.sub_le _ _) (SX.out t))
          clear hle he hrr hroom HRR hroom2
          go_wp2_with fail
          refine (rless_any X st HRM.out _ _ _ DX.out Hd4.out SX.out.tiny.small S2.out.tiny.small).mono ?_
          rintro _ w8 ⟨v8, rfl, d8, hb8⟩; have hb8s := hb8.size; (try simp only [World.size_alloc, World.size_setCell, World.size_drew, World.heap_drewN] at hb8s); obtain ⟨hb8c, hb8f⟩ := bcell hb8; (try have : w.heap.size < w8.heap.size := by omega); (try have : w.heap.size + 1 < w8.heap.size := by omega); (try have : w.heap.size + 1 + 1 < w8.heap.size := by omega); (try have : w.heap.size + 1 + 1 + 1 < w8.heap.size := by omega); have Hd8 := Lib.hid d8; clear d8
          have nw8 : Below w4.heap.size w4 w8 := by (repeat' (first | (with_reducible exact Below.refl _ _) | (with_reducible assumption) | (with_reducible refine Below.drew ?_) | (with_reducible refine below_drewN ?_ _) | ((with_reducible refine Below.alloc ?_ ?_ _); rotate_left; focus (go_size; done)) | ((with_reducible refine Below.setCell ?_ ?_ _); rotate_left; focus (go_size; done)) | ((with_reducible refine Below.trans ?_ (Below.mono (by with_reducible assumption) ?_)); rotate_left; focus (go_size; done))))
          clear hb8c hb8f
          go_wp2_with fail
          refine (H18.out _).mono ?_
          rintro _ w9 ⟨v9, rfl, d9, hb9⟩; have hb9s := hb9.size; (try simp only [World.size_alloc, World.size_setCell, World.size_drew, World.heap_drewN] at hb9s); obtain ⟨hb9c, hb9f⟩ := bcell hb9; (try have : w.heap.size < w9.heap.size := by omega); (try have : w.heap.size + 1 < w9.heap.size := by omega); (try have : w.heap.size + 1 + 1 < w9.heap.size := by omega); (try have : w.heap.size + 1 + 1 + 1 < w9.heap.size := by omega); have Hd9 := Lib.hid d9; clear d9
          clear hb9c hb9f
          go_wp2_with fail
          refine (rfit_any false (X - st) (10 ^ 18) _ _ _ (Hd8.out.below hb9) Hd9.out S4.out (ten_slim (k := 18) (by decide)) (Nat.pow_pos (by decide))).mono ?_
          rintro _ w10 ⟨rfl, hb10⟩; have hb10s := hb10.size; (try simp only [World.size_alloc, World.size_setCell, World.size_drew, World.heap_drewN] at hb10s); obtain ⟨hb10c, hb10f⟩ := bcell hb10; (try have : w.heap.size < w10.heap.size := by omega); (try have : w.heap.size + 1 < w10.heap.size := by omega); (try have : w.heap.size + 1 + 1 < w10.heap.size := by omega); (try have : w.heap.size + 1 + 1 + 1 < w10.heap.size := by omega)
          have n10 : Bk w10 (w.heap.size + 1) 26 [.bool false, .int .u64 0, .int .u64 0, .int .i64 0] := ((N4.out.below nw8 n4l).below hb9 (N4.out.below nw8 n4l).lt).below hb10 ((N4.out.below nw8 n4l).below hb9 (N4.out.below nw8 n4l).lt).lt
          have n10_0 := n10.cell 0 rfl
          have n10_1 := n10.cell 1 rfl
          have n10_2 := n10.cell 2 rfl
          have n10_3 := n10.cell 3 rfl
          have n10_4 := n10.frozen 0
          have n10_5 := n10.frozen 1
          have n10_6 := n10.frozen 2
          have n10_7 := n10.frozen 3
          clear hb10c hb10f
          go_wp2_with fail
          refine bodyPost_ret (by simp [results, Try.results68, go_sem, *]; try rfl) rfl ?_
          exact ⟨by rw [EC.out, ES.out, EE.out, HE.out, (nb_yes _).1, (nb_yes _).2.1, (nb_yes _).2.2, show ∀ x, sg false x = false from fun x => rfl], by (repeat' (first | (with_reducible exact Below.refl _ _) | (with_reducible assumption) | (with_reducible refine Below.drew ?_) | (with_reducible refine below_drewN ?_ _) | ((with_reducible refine Below.alloc ?_ ?_ _); rotate_left; focus (go_size; done)) | ((with_reducible refine Below.setCell ?_ ?_ _); rotate_left; focus (go_size; done)) | ((with_reducible refine Below.trans ?_ (Below.mono (by with_reducible assumption) ?_)); rotate_left; focus (go_size; done))))⟩
        · have hcc : ¬ cmpN X Bd ≤ 0 := by unfold cmpN; rw [if_neg (by omega), if_neg (by omega)]; decide
          have hc3 : ¬ cmpN X Bd < 0 := by omega
          generalize cmpN X Bd = cc at *
          have he := HRR.out
          rw [upK_down' (by rw [← HBD.out]; exact hle)] at he
          have HE := Far.mk he
          have hnr : Far (j = 19 ∨ B34 * 10 ^ (18 - j) < X ∨ true = false) := Far.mk (.inr (.inl (by rw [← HBD.out]; omega)))
          clear hle he hrr hroom HRR
          go_wp2_with fail
          go_roundg j
          case measure => omega
          case rel => exact ⟨by omega, rfl, HE, hnr, N4.out, nw⟩
end Go.Proofs.Ythkgjodidkpaeaa

set_option linter.unusedSimpArgs false
set_option linter.unusedVariables false
namespace Go.Proofs.Ythkgjodidkpaeaa
open Go.RowKit

set_option maxRecDepth 100000 in
set_option maxHeartbeats 4000000 in
theorem docnext_f (x1 x0 s : Int) (n0 : Bool) (n1 n2 n3 ee : Int)
    (H1 : ∀ W, Calls Try.prog 13 #[.agg #[.bool false, .int .u64 x1, .int .u64 x0, .int .i64 s]] W fun e w' => e = .returned (.bool true) ∧ Below W.heap.size W w')
    (H2 : ∀ W, Calls Try.prog 68 #[.agg #[.bool false, .int .u64 x1, .int .u64 x0, .int .i64 s], .bool false] W fun e w' => e = .returned (.tuple #[.agg #[.bool n0, .int .u64 n1, .int .u64 n2, .int .i64 n3], .int .i64 ee]) ∧ Below W.heap.size W w')
    (w : World) : Calls Try.prog 30 #[.agg #[.bool false, .int .u64 x1, .int .u64 x0, .int .i64 s]] w fun e w' => e = .returned (.tuple #[.agg #[.bool n0, .int .u64 n1, .int .u64 n2, .int .i64 n3], .int .i64 ee]) ∧ Below w.heap.size w w' := by
  have K1 := Lib.hid H1
  have K2 := Lib.hid H2
  clear H1 H2
  go_enter Try.func30, Try.ntmps30
  go_wp2_with fail
  refine (K1.out _).mono ?_
  rintro _ w1 ⟨rfl, hb1⟩; have hb1s := hb1.size; (try simp only [World.size_alloc, World.size_setCell, World.size_drew, World.heap_drewN] at hb1s); obtain ⟨hb1c, hb1f⟩ := bcell hb1; (try have : w.heap.size < w1.heap.size := by omega); (try have : w.heap.size + 1 < w1.heap.size := by omega); (try have : w.heap.size + 1 + 1 < w1.heap.size := by omega); (try have : w.heap.size + 1 + 1 + 1 < w1.heap.size := by omega)
  have aq1 : Bk w1 (w.heap.size) 26 [.bool false, .int .u64 x1, .int .u64 x0, .int .i64 s] := by (repeat (first | (with_reducible assumption) | ((with_reducible refine Bk.new_ ?_); (first | rfl | (simp only [World.size_alloc, World.size_setCell, World.size_drew, World.heap_drewN]; done))) | (with_reducible refine Bk.alloc ?_ _) | (with_reducible refine Bk.drew ?_) | (with_reducible refine Bk.drewN ?_ _) | ((with_reducible refine Bk.far ?_ ?_ _); rotate_left; focus (simp only []; omega)) | ((with_reducible refine Bk.below ?_ (by with_reducible assumption) ?_); rotate_left; focus (go_size; done))))
  have aq1_0 := aq1.cell 0 rfl
  have aq1_1 := aq1.cell 1 rfl
  have aq1_2 := aq1.cell 2 rfl
  have aq1_3 := aq1.cell 3 rfl
  have aq1_4 := aq1.frozen 0
  have aq1_5 := aq1.frozen 1
  have aq1_6 := aq1.frozen 2
  have aq1_7 := aq1.frozen 3
  have aq1l := aq1.lt
  have rq1 : Bk w1 (w.heap.size + 1) 26 [.bool false, .int .u64 0, .int .u64 0, .int .i64 0] := by (repeat (first | (with_reducible assumption) | ((with_reducible refine Bk.new_ ?_); (first | rfl | (simp only [World.size_alloc, World.size_setCell, World.size_drew, World.heap_drewN]; done))) | (with_reducible refine Bk.alloc ?_ _) | (with_reducible refine Bk.drew ?_) | (with_reducible refine Bk.drewN ?_ _) | ((with_reducible refine Bk.far ?_ ?_ _); rotate_left; focus (simp only []; omega)) | ((with_reducible refine Bk.below ?_ (by with_reducible assumption) ?_); rotate_left; focus (go_size; done))))
  have rq1_0 := rq1.cell 0 rfl
  have rq1_1 := rq1.cell 1 rfl
  have rq1_2 := rq1.cell 2 rfl
  have rq1_3 := rq1.cell 3 rfl
  have rq1_4 := rq1.frozen 0
  have rq1_5 := rq1.frozen 1
  have rq1_6 := rq1.frozen 2
  have rq1_7 := rq1.frozen 3
  have rq1l := rq1.lt
  clear hb1c hb1f
  go_wp2_with fail
  refine calls_named (fun W => Bk W (w.heap.size) 26 [.bool false, .int .u64 x1, .int .u64 x0, .int .i64 s] ∧ Bk W (w.heap.size + 1) 26 [.bool false, .int .u64 0, .int .u64 0, .int .i64 0] ∧ Below w.heap.size w W) ⟨?h0, ?h1, ?h2⟩ ?_
  case h0 => ((repeat (first | (with_reducible assumption) | ((with_reducible refine Bk.new_ ?_); (first | rfl | (simp only [World.size_alloc, World.size_setCell, World.size_drew, World.heap_drewN]; done))) | (with_reducible refine Bk.alloc ?_ _) | (with_reducible refine Bk.drew ?_) | (with_reducible refine Bk.drewN ?_ _) | ((with_reducible refine Bk.far ?_ ?_ _); rotate_left; focus (simp only []; omega)) | ((with_reducible refine Bk.below ?_ (by with_reducible assumption) ?_); rotate_left; focus (go_size; done)))); done)
  case h1 => ((repeat (first | (with_reducible assumption) | ((with_reducible refine Bk.new_ ?_); (first | rfl | (simp only [World.size_alloc, World.size_setCell, World.size_drew, World.heap_drewN]; done))) | (with_reducible refine Bk.alloc ?_ _) | (with_reducible refine Bk.drew ?_) | (with_reducible refine Bk.drewN ?_ _) | ((with_reducible refine Bk.far ?_ ?_ _); rotate_left; focus (simp only []; omega)) | ((with_reducible refine Bk.below ?_ (by with_reducible assumption) ?_); rotate_left; focus (go_size; done)))); done)
  case h2 => ((repeat' (first | (with_reducible exact Below.refl _ _) | (with_reducible assumption) | (with_reducible refine Below.drew ?_) | (with_reducible refine below_drewN ?_ _) | ((with_reducible refine Below.alloc ?_ ?_ _); rotate_left; focus (go_size; done)) | ((with_reducible refine Below.setCell ?_ ?_ _); rotate_left; focus (go_size; done)) | ((with_reducible refine Below.trans ?_ (Below.mono (by with_reducible assumption) ?_)); rotate_left; focus (go_size; done)))); done)
  clear aq1_0 aq1_1 aq1_2 aq1_3 aq1_4 aq1_5 aq1_6 aq1_7
  clear rq1_0 rq1_1 rq1_2 rq1_3 rq1_4 rq1_5 rq1_6 rq1_7
  try clear hb1 hb1s
  try clear aq1 aq1l
  try clear rq1 rq1l
  try clear kal
  try clear krl
  try clear ka
  try clear kr
  try clear kw
  rintro W1 ⟨ka, kr, kw⟩
  have kal := ka.lt
  have krl := kr.lt
  refine (K2.out _).mono ?_
  rintro _ w2 ⟨rfl, hb2⟩; have hb2s := hb2.size; (try simp only [World.size_alloc, World.size_setCell, World.size_drew, World.heap_drewN] at hb2s); obtain ⟨hb2c, hb2f⟩ := bcell hb2; (try have : w.heap.size < w2.heap.size := by omega); (try have : w.heap.size + 1 < w2.heap.size := by omega); (try have : w.heap.size + 1 + 1 < w2.heap.size := by omega); (try have : w.heap.size + 1 + 1 + 1 < w2.heap.size := by omega)
  have aq2 : Bk w2 (w.heap.size) 26 [.bool false, .int .u64 x1, .int .u64 x0, .int .i64 s] := by (repeat (first | (with_reducible assumption) | ((with_reducible refine Bk.new_ ?_); (first | rfl | (simp only [World.size_alloc, World.size_setCell, World.size_drew, World.heap_drewN]; done))) | (with_reducible refine Bk.alloc ?_ _) | (with_reducible refine Bk.drew ?_) | (with_reducible refine Bk.drewN ?_ _) | ((with_reducible refine Bk.far ?_ ?_ _); rotate_left; focus (simp only []; omega)) | ((with_reducible refine Bk.below ?_ (by with_reducible assumption) ?_); rotate_left; focus (go_size; done))))
  have aq2_0 := aq2.cell 0 rfl
  have aq2_1 := aq2.cell 1 rfl
  have aq2_2 := aq2.cell 2 rfl
  have aq2_3 := aq2.cell 3 rfl
  have aq2_4 := aq2.frozen 0
  have aq2_5 := aq2.frozen 1
  have aq2_6 := aq2.frozen 2
  have aq2_7 := aq2.frozen 3
  have aq2l := aq2.lt
  have rq2 : Bk w2 (w.heap.size + 1) 26 [.bool false, .int .u64 0, .int .u64 0, .int .i64 0] := by (repeat (first | (with_reducible assumption) | ((with_reducible refine Bk.new_ ?_); (first | rfl | (simp only [World.size_alloc, World.size_setCell, World.size_drew, World.heap_drewN]; done))) | (with_reducible refine Bk.alloc ?_ _) | (with_reducible refine Bk.drew ?_) | (with_reducible refine Bk.drewN ?_ _) | ((with_reducible refine Bk.far ?_ ?_ _); rotate_left; focus (simp only []; omega)) | ((with_reducible refine Bk.below ?_ (by with_reducible assumption) ?_); rotate_left; focus (go_size; done))))
  have rq2_0 := rq2.cell 0 rfl
  have rq2_1 := rq2.cell 1 rfl
  have rq2_2 := rq2.cell 2 rfl
  have rq2_3 := rq2.cell 3 rfl
  have rq2_4 := rq2.frozen 0
  have rq2_5 := rq2.frozen 1
  have rq2_6 := rq2.frozen 2
  have rq2_7 := rq2.frozen 3
  have rq2l := rq2.lt
  clear hb2c hb2f
  go_wp2_with fail
  refine bodyPost_ret (by simp [results, Try.results30, go_sem, *]; try rfl) rfl ?_
  exact ⟨rfl, by (repeat' (first | (with_reducible exact Below.refl _ _) | (with_reducible assumption) | (with_reducible refine Below.drew ?_) | (with_reducible refine below_drewN ?_ _) | ((with_reducible refine Below.alloc ?_ ?_ _); rotate_left; focus (go_size; done)) | ((with_reducible refine Below.setCell ?_ ?_ _); rotate_left; focus (go_size; done)) | ((with_reducible refine Below.trans ?_ (Below.mono (by with_reducible assumption) ?_)); rotate_left; focus (go_size; done))))⟩
set_option maxRecDepth 100000 in
set_option maxHeartbeats 4000000 in
theorem docnext_t (x1 x0 s : Int) (n0 : Bool) (n1 n2 n3 ee : Int) (m0 : Bool) (m1 m2 m3 : Int)
    (H1 : ∀ W, Calls Try.prog 13 #[.agg #[.bool true, .int .u64 x1, .int .u64 x0, .int .i64 s]] W fun e w' => e = .returned (.bool true) ∧ Below W.heap.size W w')
    (H2 : ∀ W, Calls Try.prog 68 #[.agg #[.bool true, .int .u64 x1, .int .u64 x0, .int .i64 s], .bool true] W fun e w' => e = .returned (.tuple #[.agg #[.bool n0, .int .u64 n1, .int .u64 n2, .int .i64 n3], .int .i64 ee]) ∧ Below W.heap.size W w')
    (H3 : ∀ W, Calls Try.prog 65 #[.agg #[.bool n0, .int .u64 n1, .int .u64 n2, .int .i64 n3]] W fun e w' => e = .returned (.agg #[.bool m0, .int .u64 m1, .int .u64 m2, .int .i64 m3]) ∧ Below W.heap.size W w')
    (w : World) : Calls Try.prog 30 #[.agg #[.bool true, .int .u64 x1, .int .u64 x0, .int .i64 s]] w fun e w' => e = .returned (.tuple #[.agg #[.bool m0, .int .u64 m1, .int .u64 m2, .int .i64 m3], .int .i64 ee]) ∧ Below w.heap.size w w' := by
  have K1 := Lib.hid H1
  have K2 := Lib.hid H2
  have K3 := Lib.hid H3
  clear H1 H2 H3
  go_enter Try.func30, Try.ntmps30
  go_wp2_with fail
  refine (K1.out _).mono ?_
  rintro _ w1 ⟨rfl, hb1⟩; have hb1s := hb1.size; (try simp only [World.size_alloc, World.size_setCell, World.size_drew, World.heap_drewN] at hb1s); obtain ⟨hb1c, hb1f⟩ := bcell hb1; (try have : w.heap.size < w1.heap.size := by omega); (try have : w.heap.size + 1 < w1.heap.size := by omega); (try have : w.heap.size + 1 + 1 < w1.heap.size := by omega); (try have : w.heap.size + 1 + 1 + 1 < w1.heap.size := by omega)
  have aq1 : Bk w1 (w.heap.size) 26 [.bool true, .int .u64 x1, .int .u64 x0, .int .i64 s] := by (repeat (first | (with_reducible assumption) | ((with_reducible refine Bk.new_ ?_); (first | rfl | (simp only [World.size_alloc, World.size_setCell, World.size_drew, World.heap_drewN]; done))) | (with_reducible refine Bk.alloc ?_ _) | (with_reducible refine Bk.drew ?_) | (with_reducible refine Bk.drewN ?_ _) | ((with_reducible refine Bk.far ?_ ?_ _); rotate_left; focus (simp only []; omega)) | ((with_reducible refine Bk.below ?_ (by with_reducible assumption) ?_); rotate_left; focus (go_size; done))))
  have aq1_0 := aq1.cell 0 rfl
  have aq1_1 := aq1.cell 1 rfl
  have aq1_2 := aq1.cell 2 rfl
  have aq1_3 := aq1.cell 3 rfl
  have aq1_4 := aq1.frozen 0
  have aq1_5 := aq1.frozen 1
  have aq1_6 := aq1.frozen 2
  have aq1_7 := aq1.frozen 3
  have aq1l := aq1.lt
  have rq1 : Bk w1 (w.heap.size + 1) 26 [.bool false, .int .u64 0, .int .u64 0, .int .i64 0] := by (repeat (first | (with_reducible assumption) | ((with_reducible refine Bk.new_ ?_); (first | rfl | (simp only [World.size_alloc, World.size_setCell, World.size_drew, World.heap_drewN]; done))) | (with_reducible refine Bk.alloc ?_ _) | (with_reducible refine Bk.drew ?_) | (with_reducible refine Bk.drewN ?_ _) | ((with_reducible refine Bk.far ?_ ?_ _); rotate_left; focus (simp only []; omega)) | ((with_reducible refine Bk.below ?_ (by with_reducible assumption) ?_); rotate_left; focus (go_size; done))))
  have rq1_0 := rq1.cell 0 rfl
  have rq1_1 := rq1.cell 1 rfl
  have rq1_2 := rq1.cell 2 rfl
  have rq1_3 := rq1.cell 3 rfl
  have rq1_4 := rq1.frozen 0
  have rq1_5 := rq1.frozen 1
  have rq1_6 := rq1.frozen 2
  have rq1_7 := rq1.frozen 3
  have rq1l := rq1.lt
  clear hb1c hb1f
  go_wp2_with fail
  refine calls_named (fun W => Bk W (w.heap.size) 26 [.bool true, .int .u64 x1, .int .u64 x0, .int .i64 s] ∧ Bk W (w.heap.size + 1) 26 [.bool false, .int .u64 0, .int .u64 0, .int .i64 0] ∧ Below w.heap.size w W) ⟨?h0, ?h1, ?h2⟩ ?_
  case h0 => ((repeat (first | (with_reducible assumption) | ((with_reducible refine Bk.new_ ?_); (first | rfl | (simp only [World.size_alloc, World.size_setCell, World.size_drew, World.heap_drewN]; done))) | (with_reducible refine Bk.alloc ?_ _) | (with_reducible refine Bk.drew ?_) | (with_reducible refine Bk.drewN ?_ _) | ((with_reducible refine Bk.far ?_ ?_ _); rotate_left; focus (simp only []; omega)) | ((with_reducible refine Bk.below ?_ (by with_reducible assumption) ?_); rotate_left; focus (go_size; done)))); done)
  case h1 => ((repeat (first | (with_reducible assumption) | ((with_reducible refine Bk.new_ ?_); (first | rfl | (simp only [World.size_alloc, World.size_setCell, World.size_drew, World.heap_drewN]; done))) | (with_reducible refine Bk.alloc ?_ _) | (with_reducible refine Bk.drew ?_) | (with_reducible refine Bk.drewN ?_ _) | ((with_reducible refine Bk.far ?_ ?_ _); rotate_left; focus (simp only []; omega)) | ((with_reducible refine Bk.below ?_ (by with_reducible assumption) ?_); rotate_left; focus (go_size; done)))); done)
  case h2 => ((repeat' (first | (with_reducible exact Below.refl _ _) | (with_reducible assumption) | (with_reducible refine Below.drew ?_) | (with_reducible refine below_drewN ?_ _) | ((with_reducible refine Below.alloc ?_ ?_ _); rotate_left; focus (go_size; done)) | ((with_reducible refine Below.setCell ?_ ?_ _); rotate_left; focus (go_size; done)) | ((with_reducible refine Below.trans ?_ (Below.mono (by with_reducible assumption) ?_)); rotate_left; focus (go_size; done)))); done)
  clear aq1_0 aq1_1 aq1_2 aq1_3 aq1_4 aq1_5 aq1_6 aq1_7
  clear rq1_0 rq1_1 rq1_2 rq1_3 rq1_4 rq1_5 rq1_6 rq1_7
  try clear hb1 hb1s
  try clear aq1 aq1l
  try clear rq1 rq1l
  try clear kal
  try clear krl
  try clear ka
  try clear kr
  try clear kw
  rintro W1 ⟨ka, kr, kw⟩
  have kal := ka.lt
  have krl := kr.lt
  refine (K2.out _).mono ?_
  rintro _ w2 ⟨rfl, hb2⟩; have hb2s := hb2.size; (try simp only [World.size_alloc, World.size_setCell, World.size_drew, World.heap_drewN] at hb2s); obtain ⟨hb2c, hb2f⟩ := bcell hb2; (try have : w.heap.size < w2.heap.size := by omega); (try have : w.heap.size + 1 < w2.heap.size := by omega); (try have : w.heap.size + 1 + 1 < w2.heap.size := by omega); (try have : w.heap.size + 1 + 1 + 1 < w2.heap.size := by omega)
  have aq2 : Bk w2 (w.heap.size) 26 [.bool true, .int .u64 x1, .int .u64 x0, .int .i64 s] := by (repeat (first | (with_reducible assumption) | ((with_reducible refine Bk.new_ ?_); (first | rfl | (simp only [World.size_alloc, World.size_setCell, World.size_drew, World.heap_drewN]; done))) | (with_reducible refine Bk.alloc ?_ _) | (with_reducible refine Bk.drew ?_) | (with_reducible refine Bk.drewN ?_ _) | ((with_reducible refine Bk.far ?_ ?_ _); rotate_left; focus (simp only []; omega)) | ((with_reducible refine Bk.below ?_ (by with_reducible assumption) ?_); rotate_left; focus (go_size; done))))
  have aq2_0 := aq2.cell 0 rfl
  have aq2_1 := aq2.cell 1 rfl
  have aq2_2 := aq2.cell 2 rfl
  have aq2_3 := aq2.cell 3 rfl
  have aq2_4 := aq2.frozen 0
  have aq2_5 := aq2.frozen 1
  have aq2_6 := aq2.frozen 2
  have aq2_7 := aq2.frozen 3
  have aq2l := aq2.lt
  have rq2 : Bk w2 (w.heap.size + 1) 26 [.bool false, .int .u64 0, .int .u64 0, .int .i64 0] := by (repeat (first | (with_reducible assumption) | ((with_reducible refine Bk.new_ ?_); (first | rfl | (simp only [World.size_alloc, World.size_setCell, World.size_drew, World.heap_drewN]; done))) | (with_reducible refine Bk.alloc ?_ _) | (with_reducible refine Bk.drew ?_) | (with_reducible refine Bk.drewN ?_ _) | ((with_reducible refine Bk.far ?_ ?_ _); rotate_left; focus (simp only []; omega)) | ((with_reducible refine Bk.below ?_ (by with_reducible assumption) ?_); rotate_left; focus (go_size; done))))
  have rq2_0 := rq2.cell 0 rfl
  have rq2_1 := rq2.cell 1 rfl
  have rq2_2 := rq2.cell 2 rfl
  have rq2_3 := rq2.cell 3 rfl
  have rq2_4 := rq2.frozen 0
  have rq2_5 := rq2.frozen 1
  have rq2_6 := rq2.frozen 2
  have rq2_7 := rq2.frozen 3
  have rq2l := rq2.lt
  clear hb2c hb2f
  go_wp2_with fail
  obtain ⟨gn, hgn⟩ : ∃ gn, gn = w2.heap.size := ⟨_, rfl⟩
  refine calls_named (fun W => Bk W (w.heap.size) 26 [.bool true, .int .u64 x1, .int .u64 x0, .int .i64 s] ∧ Bk W (w.heap.size + 1) 26 [.bool false, .int .u64 0, .int .u64 0, .int .i64 0] ∧ Bk W w2.heap.size 26 [.bool n0, .int .u64 n1, .int .u64 n2, .int .i64 n3] ∧ Below w.heap.size w W) ⟨?h0, ?h1, ?h2, ?h3⟩ ?_
  case h0 => ((repeat (first | (with_reducible assumption) | ((with_reducible refine Bk.new_ ?_); (first | rfl | (simp only [World.size_alloc, World.size_setCell, World.size_drew, World.heap_drewN]; done))) | (with_reducible refine Bk.alloc ?_ _) | (with_reducible refine Bk.drew ?_) | (with_reducible refine Bk.drewN ?_ _) | ((with_reducible refine Bk.far ?_ ?_ _); rotate_left; focus (simp only []; omega)) | ((with_reducible refine Bk.below ?_ (by with_reducible assumption) ?_); rotate_left; focus (go_size; done)))); done)
  case h1 => ((repeat (first | (with_reducible assumption) | ((with_reducible refine Bk.new_ ?_); (first | rfl | (simp only [World.size_alloc, World.size_setCell, World.size_drew, World.heap_drewN]; done))) | (with_reducible refine Bk.alloc ?_ _) | (with_reducible refine Bk.drew ?_) | (with_reducible refine Bk.drewN ?_ _) | ((with_reducible refine Bk.far ?_ ?_ _); rotate_left; focus (simp only []; omega)) | ((with_reducible refine Bk.below ?_ (by with_reducible assumption) ?_); rotate_left; focus (go_size; done)))); done)
  case h2 => ((repeat (first | (with_reducible assumption) | ((with_reducible refine Bk.new_ ?_); (first | rfl | (simp only [World.size_alloc, World.size_setCell, World.size_drew, World.heap_drewN]; done))) | (with_reducible refine Bk.alloc ?_ _) | (with_reducible refine Bk.drew ?_) | (with_reducible refine Bk.drewN ?_ _) | ((with_reducible refine Bk.far ?_ ?_ _); rotate_left; focus (simp only []; omega)) | ((with_reducible refine Bk.below ?_ (by with_reducible assumption) ?_); rotate_left; focus (go_size; done)))); done)
  case h3 => ((repeat' (first | (with_reducible exact Below.refl _ _) | (with_reducible assumption) | (with_reducible refine Below.drew ?_) | (with_reducible refine below_drewN ?_ _) | ((with_reducible refine Below.alloc ?_ ?_ _); rotate_left; focus (go_size; done)) | ((with_reducible refine Below.setCell ?_ ?_ _); rotate_left; focus (go_size; done)) | ((with_reducible refine Below.trans ?_ (Below.mono (by with_reducible assumption) ?_)); rotate_left; focus (go_size; done)))); done)
  clear aq2_0 aq2_1 aq2_2 aq2_3 aq2_4 aq2_5 aq2_6 aq2_7
  clear rq2_0 rq2_1 rq2_2 rq2_3 rq2_4 rq2_5 rq2_6 rq2_7
  rw [← hgn]
  have gn_a : w.heap.size < gn := by omega
  have gn_r : w.heap.size + 1 < gn := by omega
  clear hgn
  try clear hb2 hb2s
  try clear aq2 aq2l
  try clear rq2 rq2l
  try clear kal
  try clear krl
  try clear ka
  try clear kr
  try clear kw
  rintro W2 ⟨ka, kr, kn, kw⟩
  have kal := ka.lt
  have krl := kr.lt
  have knl := kn.lt
  refine (K3.out _).mono ?_
  rintro _ w3 ⟨rfl, hb3⟩; have hb3s := hb3.size; (try simp only [World.size_alloc, World.size_setCell, World.size_drew, World.heap_drewN] at hb3s); obtain ⟨hb3c, hb3f⟩ := bcell hb3; (try have : w.heap.size < w3.heap.size := by omega); (try have : w.heap.size + 1 < w3.heap.size := by omega); (try have : w.heap.size + 1 + 1 < w3.heap.size := by omega); (try have : w.heap.size + 1 + 1 + 1 < w3.heap.size := by omega)
  have aq3 : Bk w3 (w.heap.size) 26 [.bool true, .int .u64 x1, .int .u64 x0, .int .i64 s] := by (repeat (first | (with_reducible assumption) | ((with_reducible refine Bk.new_ ?_); (first | rfl | (simp only [World.size_alloc, World.size_setCell, World.size_drew, World.heap_drewN]; done))) | (with_reducible refine Bk.alloc ?_ _) | (with_reducible refine Bk.drew ?_) | (with_reducible refine Bk.drewN ?_ _) | ((with_reducible refine Bk.far ?_ ?_ _); rotate_left; focus (simp only []; omega)) | ((with_reducible refine Bk.below ?_ (by with_reducible assumption) ?_); rotate_left; focus (go_size; done))))
  have aq3_0 := aq3.cell 0 rfl
  have aq3_1 := aq3.cell 1 rfl
  have aq3_2 := aq3.cell 2 rfl
  have aq3_3 := aq3.cell 3 rfl
  have aq3_4 := aq3.frozen 0
  have aq3_5 := aq3.frozen 1
  have aq3_6 := aq3.frozen 2
  have aq3_7 := aq3.frozen 3
  have aq3l := aq3.lt
  have rq3 : Bk w3 (w.heap.size + 1) 26 [.bool false, .int .u64 0, .int .u64 0, .int .i64 0] := by (repeat (first | (with_reducible assumption) | ((with_reducible refine Bk.new_ ?_); (first | rfl | (simp only [World.size_alloc, World.size_setCell, World.size_drew, World.heap_drewN]; done))) | (with_reducible refine Bk.alloc ?_ _) | (with_reducible refine Bk.drew ?_) | (with_reducible refine Bk.drewN ?_ _) | ((with_reducible refine Bk.far ?_ ?_ _); rotate_left; focus (simp only []; omega)) | ((with_reducible refine Bk.below ?_ (by with_reducible assumption) ?_); rotate_left; focus (go_size; done))))
  have rq3_0 := rq3.cell 0 rfl
  have rq3_1 := rq3.cell 1 rfl
  have rq3_2 := rq3.cell 2 rfl
  have rq3_3 := rq3.cell 3 rfl
  have rq3_4 := rq3.frozen 0
  have rq3_5 := rq3.frozen 1
  have rq3_6 := rq3.frozen 2
  have rq3_7 := rq3.frozen 3
  have rq3l := rq3.lt
  have nq3 : Bk w3 (gn) 26 [.bool n0, .int .u64 n1, .int .u64 n2, .int .i64 n3] := by (repeat (first | (with_reducible assumption) | ((with_reducible refine Bk.new_ ?_); (first | rfl | (simp only [World.size_alloc, World.size_setCell, World.size_drew, World.heap_drewN]; done))) | (with_reducible refine Bk.alloc ?_ _) | (with_reducible refine Bk.drew ?_) | (with_reducible refine Bk.drewN ?_ _) | ((with_reducible refine Bk.far ?_ ?_ _); rotate_left; focus (simp only []; omega)) | ((with_reducible refine Bk.below ?_ (by with_reducible assumption) ?_); rotate_left; focus (go_size; done))))
  have nq3_0 := nq3.cell 0 rfl
  have nq3_1 := nq3.cell 1 rfl
  have nq3_2 := nq3.cell 2 rfl
  have nq3_3 := nq3.cell 3 rfl
  have nq3_4 := nq3.frozen 0
  have nq3_5 := nq3.frozen 1
  have nq3_6 := nq3.frozen 2
  have nq3_7 := nq3.frozen 3
  have nq3l := nq3.lt
  clear hb3c hb3f
  go_wp2_with fail
  refine bodyPost_ret (by simp [results, Try.results30, go_sem, *]; try rfl) rfl ?_
  exact ⟨rfl, by (repeat' (first | (with_reducible exact Below.refl _ _) | (with_reducible assumption) | (with_reducible refine Below.drew ?_) | (with_reducible refine below_drewN ?_ _) | ((with_reducible refine Below.alloc ?_ ?_ _); rotate_left; focus (go_size; done)) | ((with_reducible refine Below.setCell ?_ ?_ _); rotate_left; focus (go_size; done)) | ((with_reducible refine Below.trans ?_ (Below.mono (by with_reducible assumption) ?_)); rotate_left; focus (go_size; done))))⟩
set_option maxRecDepth 100000 in
set_option maxHeartbeats 4000000 in
theorem docprev_w (b : Bool) (x1 x0 s : Int) (f0 : Bool) (f1 f2 f3 : Int) (n0 : Bool) (n1 n2 n3 ee : Int) (m0 : Bool) (m1 m2 m3 : Int)
    (H1 : ∀ W, Calls Try.prog 13 #[.agg #[.bool b, .int .u64 x1, .int .u64 x0, .int .i64 s]] W fun e w' => e = .returned (.bool true) ∧ Below W.heap.size W w')
    (H2 : ∀ W, Calls Try.prog 65 #[.agg #[.bool b, .int .u64 x1, .int .u64 x0, .int .i64 s]] W fun e w' => e = .returned (.agg #[.bool f0, .int .u64 f1, .int .u64 f2, .int .i64 f3]) ∧ Below W.heap.size W w')
    (H3 : ∀ W, Calls Try.prog 30 #[.agg #[.bool f0, .int .u64 f1, .int .u64 f2, .int .i64 f3]] W fun e w' => e = .returned (.tuple #[.agg #[.bool n0, .int .u64 n1, .int .u64 n2, .int .i64 n3], .int .i64 ee]) ∧ Below W.heap.size W w')
    (H4 : ∀ W, Calls Try.prog 65 #[.agg #[.bool n0, .int .u64 n1, .int .u64 n2, .int .i64 n3]] W fun e w' => e = .returned (.agg #[.bool m0, .int .u64 m1, .int .u64 m2, .int .i64 m3]) ∧ Below W.heap.size W w')
    (w : World) : Calls Try.prog 32 #[.agg #[.bool b, .int .u64 x1, .int .u64 x0, .int .i64 s]] w fun e w' => e = .returned (.tuple #[.agg #[.bool m0, .int .u64 m1, .int .u64 m2, .int .i64 m3], .int .i64 ee]) ∧ Below w.heap.size w w' := by
  have K1 := Lib.hid H1
  have K2 := Lib.hid H2
  have K3 := Lib.hid H3
  have K4 := Lib.hid H4
  clear H1 H2 H3 H4
  go_enter Try.func32, Try.ntmps32
  go_wp2_with fail
  refine (K1.out _).mono ?_
  rintro _ w1 ⟨rfl, hb1⟩; have hb1s := hb1.size; (try simp only [World.size_alloc, World.size_setCell, World.size_drew, World.heap_drewN] at hb1s); obtain ⟨hb1c, hb1f⟩ := bcell hb1; (try have : w.heap.size < w1.heap.size := by omega); (try have : w.heap.size + 1 < w1.heap.size := by omega); (try have : w.heap.size + 1 + 1 < w1.heap.size := by omega); (try have : w.heap.size + 1 + 1 + 1 < w1.heap.size := by omega)
  have aq1 : Bk w1 (w.heap.size) 26 [.bool b, .int .u64 x1, .int .u64 x0, .int .i64 s] := by (repeat (first | (with_reducible assumption) | ((with_reducible refine Bk.new_ ?_); (first | rfl | (simp only [World.size_alloc, World.size_setCell, World.size_drew, World.heap_drewN]; done))) | (with_reducible refine Bk.alloc ?_ _) | (with_reducible refine Bk.drew ?_) | (with_reducible refine Bk.drewN ?_ _) | ((with_reducible refine Bk.far ?_ ?_ _); rotate_left; focus (simp only []; omega)) | ((with_reducible refine Bk.below ?_ (by with_reducible assumption) ?_); rotate_left; focus (go_size; done))))
  have aq1_0 := aq1.cell 0 rfl
  have aq1_1 := aq1.cell 1 rfl
  have aq1_2 := aq1.cell 2 rfl
  have aq1_3 := aq1.cell 3 rfl
  have aq1_4 := aq1.frozen 0
  have aq1_5 := aq1.frozen 1
  have aq1_6 := aq1.frozen 2
  have aq1_7 := aq1.frozen 3
  have aq1l := aq1.lt
  have rq1 : Bk w1 (w.heap.size + 1) 26 [.bool false, .int .u64 0, .int .u64 0, .int .i64 0] := by (repeat (first | (with_reducible assumption) | ((with_reducible refine Bk.new_ ?_); (first | rfl | (simp only [World.size_alloc, World.size_setCell, World.size_drew, World.heap_drewN]; done))) | (with_reducible refine Bk.alloc ?_ _) | (with_reducible refine Bk.drew ?_) | (with_reducible refine Bk.drewN ?_ _) | ((with_reducible refine Bk.far ?_ ?_ _); rotate_left; focus (simp only []; omega)) | ((with_reducible refine Bk.below ?_ (by with_reducible assumption) ?_); rotate_left; focus (go_size; done))))
  have rq1_0 := rq1.cell 0 rfl
  have rq1_1 := rq1.cell 1 rfl
  have rq1_2 := rq1.cell 2 rfl
  have rq1_3 := rq1.cell 3 rfl
  have rq1_4 := rq1.frozen 0
  have rq1_5 := rq1.frozen 1
  have rq1_6 := rq1.frozen 2
  have rq1_7 := rq1.frozen 3
  have rq1l := rq1.lt
  clear hb1c hb1f
  go_wp2_with fail
  refine calls_named (fun W => Bk W (w.heap.size) 26 [.bool b, .int .u64 x1, .int .u64 x0, .int .i64 s] ∧ Bk W (w.heap.size + 1) 26 [.bool false, .int .u64 0, .int .u64 0, .int .i64 0] ∧ Below w.heap.size w W) ⟨?h0, ?h1, ?h2⟩ ?_
  case h0 => ((repeat (first | (with_reducible assumption) | ((with_reducible refine Bk.new_ ?_); (first | rfl | (simp only [World.size_alloc, World.size_setCell, World.size_drew, World.heap_drewN]; done))) | (with_reducible refine Bk.alloc ?_ _) | (with_reducible refine Bk.drew ?_) | (with_reducible refine Bk.drewN ?_ _) | ((with_reducible refine Bk.far ?_ ?_ _); rotate_left; focus (simp only []; omega)) | ((with_reducible refine Bk.below ?_ (by with_reducible assumption) ?_); rotate_left; focus (go_size; done)))); done)
  case h1 => ((repeat (first | (with_reducible assumption) | ((with_reducible refine Bk.new_ ?_); (first | rfl | (simp only [World.size_alloc, World.size_setCell, World.size_drew, World.heap_drewN]; done))) | (with_reducible refine Bk.alloc ?_ _) | (with_reducible refine Bk.drew ?_) | (with_reducible refine Bk.drewN ?_ _) | ((with_reducible refine Bk.far ?_ ?_ _); rotate_left; focus (simp only []; omega)) | ((with_reducible refine Bk.below ?_ (by with_reducible assumption) ?_); rotate_left; focus (go_size; done)))); done)
  case h2 => ((repeat' (first | (with_reducible exact Below.refl _ _) | (with_reducible assumption) | (with_reducible refine Below.drew ?_) | (with_reducible refine below_drewN ?_ _) | ((with_reducible refine Below.alloc ?_ ?_ _); rotate_left; focus (go_size; done)) | ((with_reducible refine Below.setCell ?_ ?_ _); rotate_left; focus (go_size; done)) | ((with_reducible refine Below.trans ?_ (Below.mono (by with_reducible assumption) ?_)); rotate_left; focus (go_size; done)))); done)
  clear aq1_0 aq1_1 aq1_2 aq1_3 aq1_4 aq1_5 aq1_6 aq1_7
  clear rq1_0 rq1_1 rq1_2 rq1_3 rq1_4 rq1_5 rq1_6 rq1_7
  try clear hb1 hb1s
  try clear aq1 aq1l
  try clear rq1 rq1l
  try clear kal
  try clear krl
  try clear ka
  try clear kr
  try clear kw
  rintro W1 ⟨ka, kr, kw⟩
  have kal := ka.lt
  have krl := kr.lt
  refine (K2.out _).mono ?_
  rintro _ w2 ⟨rfl, hb2⟩; have hb2s := hb2.size; (try simp only [World.size_alloc, World.size_setCell, World.size_drew, World.heap_drewN] at hb2s); obtain ⟨hb2c, hb2f⟩ := bcell hb2; (try have : w.heap.size < w2.heap.size := by omega); (try have : w.heap.size + 1 < w2.heap.size := by omega); (try have : w.heap.size + 1 + 1 < w2.heap.size := by omega); (try have : w.heap.size + 1 + 1 + 1 < w2.heap.size := by omega)
  have aq2 : Bk w2 (w.heap.size) 26 [.bool b, .int .u64 x1, .int .u64 x0, .int .i64 s] := by (repeat (first | (with_reducible assumption) | ((with_reducible refine Bk.new_ ?_); (first | rfl | (simp only [World.size_alloc, World.size_setCell, World.size_drew, World.heap_drewN]; done))) | (with_reducible refine Bk.alloc ?_ _) | (with_reducible refine Bk.drew ?_) | (with_reducible refine Bk.drewN ?_ _) | ((with_reducible refine Bk.far ?_ ?_ _); rotate_left; focus (simp only []; omega)) | ((with_reducible refine Bk.below ?_ (by with_reducible assumption) ?_); rotate_left; focus (go_size; done))))
  have aq2_0 := aq2.cell 0 rfl
  have aq2_1 := aq2.cell 1 rfl
  have aq2_2 := aq2.cell 2 rfl
  have aq2_3 := aq2.cell 3 rfl
  have aq2_4 := aq2.frozen 0
  have aq2_5 := aq2.frozen 1
  have aq2_6 := aq2.frozen 2
  have aq2_7 := aq2.frozen 3
  have aq2l := aq2.lt
  have rq2 : Bk w2 (w.heap.size + 1) 26 [.bool false, .int .u64 0, .int .u64 0, .int .i64 0] := by (repeat (first | (with_reducible assumption) | ((with_reducible refine Bk.new_ ?_); (first | rfl | (simp only [World.size_alloc, World.size_setCell, World.size_drew, World.heap_drewN]; done))) | (with_reducible refine Bk.alloc ?_ _) | (with_reducible refine Bk.drew ?_) | (with_reducible refine Bk.drewN ?_ _) | ((with_reducible refine Bk.far ?_ ?_ _); rotate_left; focus (simp only []; omega)) | ((with_reducible refine Bk.below ?_ (by with_reducible assumption) ?_); rotate_left; focus (go_size; done))))
  have rq2_0 := rq2.cell 0 rfl
  have rq2_1 := rq2.cell 1 rfl
  have rq2_2 := rq2.cell 2 rfl
  have rq2_3 := rq2.cell 3 rfl
  have rq2_4 := rq2.frozen 0
  have rq2_5 := rq2.frozen 1
  have rq2_6 := rq2.frozen 2
  have rq2_7 := rq2.frozen 3
  have rq2l := rq2.lt
  clear hb2c hb2f
  go_wp2_with fail
  refine calls_named (fun W => Bk W (w.heap.size) 26 [.bool b, .int .u64 x1, .int .u64 x0, .int .i64 s] ∧ Bk W (w.heap.size + 1) 26 [.bool false, .int .u64 0, .int .u64 0, .int .i64 0] ∧ Below w.heap.size w W) ⟨?h0, ?h1, ?h2⟩ ?_
  case h0 => ((repeat (first | (with_reducible assumption) | ((with_reducible refine Bk.new_ ?_); (first | rfl | (simp only [World.size_alloc, World.size_setCell, World.size_drew, World.heap_drewN]; done))) | (with_reducible refine Bk.alloc ?_ _) | (with_reducible refine Bk.drew ?_) | (with_reducible refine Bk.drewN ?_ _) | ((with_reducible refine Bk.far ?_ ?_ _); rotate_left; focus (simp only []; omega)) | ((with_reducible refine Bk.below ?_ (by with_reducible assumption) ?_); rotate_left; focus (go_size; done)))); done)
  case h1 => ((repeat (first | (with_reducible assumption) | ((with_reducible refine Bk.new_ ?_); (first | rfl | (simp only [World.size_alloc, World.size_setCell, World.size_drew, World.heap_drewN]; done))) | (with_reducible refine Bk.alloc ?_ _) | (with_reducible refine Bk.drew ?_) | (with_reducible refine Bk.drewN ?_ _) | ((with_reducible refine Bk.far ?_ ?_ _); rotate_left; focus (simp only []; omega)) | ((with_reducible refine Bk.below ?_ (by with_reducible assumption) ?_); rotate_left; focus (go_size; done)))); done)
  case h2 => ((repeat' (first | (with_reducible exact Below.refl _ _) | (with_reducible assumption) | (with_reducible refine Below.drew ?_) | (with_reducible refine below_drewN ?_ _) | ((with_reducible refine Below.alloc ?_ ?_ _); rotate_left; focus (go_size; done)) | ((with_reducible refine Below.setCell ?_ ?_ _); rotate_left; focus (go_size; done)) | ((with_reducible refine Below.trans ?_ (Below.mono (by with_reducible assumption) ?_)); rotate_left; focus (go_size; done)))); done)
  clear aq2_0 aq2_1 aq2_2 aq2_3 aq2_4 aq2_5 aq2_6 aq2_7
  clear rq2_0 rq2_1 rq2_2 rq2_3 rq2_4 rq2_5 rq2_6 rq2_7
  try clear hb2 hb2s
  try clear aq2 aq2l
  try clear rq2 rq2l
  try clear kal
  try clear krl
  try clear ka
  try clear kr
  try clear kw
  rintro W2 ⟨ka, kr, kw⟩
  have kal := ka.lt
  have krl := kr.lt
  refine (K3.out _).mono ?_
  rintro _ w3 ⟨rfl, hb3⟩; have hb3s := hb3.size; (try simp only [World.size_alloc, World.size_setCell, World.size_drew, World.heap_drewN] at hb3s); obtain ⟨hb3c, hb3f⟩ := bcell hb3; (try have : w.heap.size < w3.heap.size := by omega); (try have : w.heap.size + 1 < w3.heap.size := by omega); (try have : w.heap.size + 1 + 1 < w3.heap.size := by omega); (try have : w.heap.size + 1 + 1 + 1 < w3.heap.size := by omega)
  have aq3 : Bk w3 (w.heap.size) 26 [.bool b, .int .u64 x1, .int .u64 x0, .int .i64 s] := by (repeat (first | (with_reducible assumption) | ((with_reducible refine Bk.new_ ?_); (first | rfl | (simp only [World.size_alloc, World.size_setCell, World.size_drew, World.heap_drewN]; done))) | (with_reducible refine Bk.alloc ?_ _) | (with_reducible refine Bk.drew ?_) | (with_reducible refine Bk.drewN ?_ _) | ((with_reducible refine Bk.far ?_ ?_ _); rotate_left; focus (simp only []; omega)) | ((with_reducible refine Bk.below ?_ (by with_reducible assumption) ?_); rotate_left; focus (go_size; done))))
  have aq3_0 := aq3.cell 0 rfl
  have aq3_1 := aq3.cell 1 rfl
  have aq3_2 := aq3.cell 2 rfl
  have aq3_3 := aq3.cell 3 rfl
  have aq3_4 := aq3.frozen 0
  have aq3_5 := aq3.frozen 1
  have aq3_6 := aq3.frozen 2
  have aq3_7 := aq3.frozen 3
  have aq3l := aq3.lt
  have rq3 : Bk w3 (w.heap.size + 1) 26 [.bool false, .int .u64 0, .int .u64 0, .int .i64 0] := by (repeat (first | (with_reducible assumption) | ((with_reducible refine Bk.new_ ?_); (first | rfl | (simp only [World.size_alloc, World.size_setCell, World.size_drew, World.heap_drewN]; done))) | (with_reducible refine Bk.alloc ?_ _) | (with_reducible refine Bk.drew ?_) | (with_reducible refine Bk.drewN ?_ _) | ((with_reducible refine Bk.far ?_ ?_ _); rotate_left; focus (simp only []; omega)) | ((with_reducible refine Bk.below ?_ (by with_reducible assumption) ?_); rotate_left; focus (go_size; done))))
  have rq3_0 := rq3.cell 0 rfl
  have rq3_1 := rq3.cell 1 rfl
  have rq3_2 := rq3.cell 2 rfl
  have rq3_3 := rq3.cell 3 rfl
  have rq3_4 := rq3.frozen 0
  have rq3_5 := rq3.frozen 1
  have rq3_6 := rq3.frozen 2
  have rq3_7 := rq3.frozen 3
  have rq3l := rq3.lt
  clear hb3c hb3f
  go_wp2_with fail
  obtain ⟨gn, hgn⟩ : ∃ gn, gn = w3.heap.size := ⟨_, rfl⟩
  refine calls_named (fun W => Bk W (w.heap.size) 26 [.bool b, .int .u64 x1, .int .u64 x0, .int .i64 s] ∧ Bk W (w.heap.size + 1) 26 [.bool false, .int .u64 0, .int .u64 0, .int .i64 0] ∧ Bk W w3.heap.size 26 [.bool n0, .int .u64 n1, .int .u64 n2, .int .i64 n3] ∧ Below w.heap.size w W) ⟨?h0, ?h1, ?h2, ?h3⟩ ?_
  case h0 => ((repeat (first | (with_reducible assumption) | ((with_reducible refine Bk.new_ ?_); (first | rfl | (simp only [World.size_alloc, World.size_setCell, World.size_drew, World.heap_drewN]; done))) | (with_reducible refine Bk.alloc ?_ _) | (with_reducible refine Bk.drew ?_) | (with_reducible refine Bk.drewN ?_ _) | ((with_reducible refine Bk.far ?_ ?_ _); rotate_left; focus (simp only []; omega)) | ((with_reducible refine Bk.below ?_ (by with_reducible assumption) ?_); rotate_left; focus (go_size; done)))); done)
  case h1 => ((repeat (first | (with_reducible assumption) | ((with_reducible refine Bk.new_ ?_); (first | rfl | (simp only [World.size_alloc, World.size_setCell, World.size_drew, World.heap_drewN]; done))) | (with_reducible refine Bk.alloc ?_ _) | (with_reducible refine Bk.drew ?_) | (with_reducible refine Bk.drewN ?_ _) | ((with_reducible refine Bk.far ?_ ?_ _); rotate_left; focus (simp only []; omega)) | ((with_reducible refine Bk.below ?_ (by with_reducible assumption) ?_); rotate_left; focus (go_size; done)))); done)
  case h2 => ((repeat (first | (with_reducible assumption) | ((with_reducible refine Bk.new_ ?_); (first | rfl | (simp only [World.size_alloc, World.size_setCell, World.size_drew, World.heap_drewN]; done))) | (with_reducible refine Bk.alloc ?_ _) | (with_reducible refine Bk.drew ?_) | (with_reducible refine Bk.drewN ?_ _) | ((with_reducible refine Bk.far ?_ ?_ _); rotate_left; focus (simp only []; omega)) | ((with_reducible refine Bk.below ?_ (by with_reducible assumption) ?_); rotate_left; focus (go_size; done)))); done)
  case h3 => ((repeat' (first | (with_reducible exact Below.refl _ _) | (with_reducible assumption) | (with_reducible refine Below.drew ?_) | (with_reducible refine below_drewN ?_ _) | ((with_reducible refine Below.alloc ?_ ?_ _); rotate_left; focus (go_size; done)) | ((with_reducible refine Below.setCell ?_ ?_ _); rotate_left; focus (go_size; done)) | ((with_reducible refine Below.trans ?_ (Below.mono (by with_reducible assumption) ?_)); rotate_left; focus (go_size; done)))); done)
  clear aq3_0 aq3_1 aq3_2 aq3_3 aq3_4 aq3_5 aq3_6 aq3_7
  clear rq3_0 rq3_1 rq3_2 rq3_3 rq3_4 rq3_5 rq3_6 rq3_7
  rw [← hgn]
  have gn_a : w.heap.size < gn := by omega
  have gn_r : w.heap.size + 1 < gn := by omega
  clear hgn
  try clear hb3 hb3s
  try clear aq3 aq3l
  try clear rq3 rq3l
  try clear kal
  try clear krl
  try clear ka
  try clear kr
  try clear kw
  rintro W3 ⟨ka, kr, kn, kw⟩
  have kal := ka.lt
  have krl := kr.lt
  have knl := kn.lt
  refine (K4.out _).mono ?_
  rintro _ w4 ⟨rfl, hb4⟩; have hb4s := hb4.size; (try simp only [World.size_alloc, World.size_setCell, World.size_drew, World.heap_drewN] at hb4s); obtain ⟨hb4c, hb4f⟩ := bcell hb4; (try have : w.heap.size < w4.heap.size := by omega); (try have : w.heap.size + 1 < w4.heap.size := by omega); (try have : w.heap.size + 1 + 1 < w4.heap.size := by omega); (try have : w.heap.size + 1 + 1 + 1 < w4.heap.size := by omega)
  have aq4 : Bk w4 (w.heap.size) 26 [.bool b, .int .u64 x1, .int .u64 x0, .int .i64 s] := by (repeat (first | (with_reducible assumption) | ((with_reducible refine Bk.new_ ?_); (first | rfl | (simp only [World.size_alloc, World.size_setCell, World.size_drew, World.heap_drewN]; done))) | (with_reducible refine Bk.alloc ?_ _) | (with_reducible refine Bk.drew ?_) | (with_reducible refine Bk.drewN ?_ _) | ((with_reducible refine Bk.far ?_ ?_ _); rotate_left; focus (simp only []; omega)) | ((with_reducible refine Bk.below ?_ (by with_reducible assumption) ?_); rotate_left; focus (go_size; done))))
  have aq4_0 := aq4.cell 0 rfl
  have aq4_1 := aq4.cell 1 rfl
  have aq4_2 := aq4.cell 2 rfl
  have aq4_3 := aq4.cell 3 rfl
  have aq4_4 := aq4.frozen 0
  have aq4_5 := aq4.frozen 1
  have aq4_6 := aq4.frozen 2
  have aq4_7 := aq4.frozen 3
  have aq4l := aq4.lt
  have rq4 : Bk w4 (w.heap.size + 1) 26 [.bool false, .int .u64 0, .int .u64 0, .int .i64 0] := by (repeat (first | (with_reducible assumption) | ((with_reducible refine Bk.new_ ?_); (first | rfl | (simp only [World.size_alloc, World.size_setCell, World.size_drew, World.heap_drewN]; done))) | (with_reducible refine Bk.alloc ?_ _) | (with_reducible refine Bk.drew ?_) | (with_reducible refine Bk.drewN ?_ _) | ((with_reducible refine Bk.far ?_ ?_ _); rotate_left; focus (simp only []; omega)) | ((with_reducible refine Bk.below ?_ (by with_reducible assumption) ?_); rotate_left; focus (go_size; done))))
  have rq4_0 := rq4.cell 0 rfl
  have rq4_1 := rq4.cell 1 rfl
  have rq4_2 := rq4.cell 2 rfl
  have rq4_3 := rq4.cell 3 rfl
  have rq4_4 := rq4.frozen 0
  have rq4_5 := rq4.frozen 1
  have rq4_6 := rq4.frozen 2
  have rq4_7 := rq4.frozen 3
  have rq4l := rq4.lt
  have nq4 : Bk w4 (gn) 26 [.bool n0, .int .u64 n1, .int .u64 n2, .int .i64 n3] := by (repeat (first | (with_reducible assumption) | ((with_reducible refine Bk.new_ ?_); (first | rfl | (simp only [World.size_alloc, World.size_setCell, World.size_drew, World.heap_drewN]; done))) | (with_reducible refine Bk.alloc ?_ _) | (with_reducible refine Bk.drew ?_) | (with_reducible refine Bk.drewN ?_ _) | ((with_reducible refine Bk.far ?_ ?_ _); rotate_left; focus (simp only []; omega)) | ((with_reducible refine Bk.below ?_ (by with_reducible assumption) ?_); rotate_left; focus (go_size; done))))
  have nq4_0 := nq4.cell 0 rfl
  have nq4_1 := nq4.cell 1 rfl
  have nq4_2 := nq4.cell 2 rfl
  have nq4_3 := nq4.cell 3 rfl
  have nq4_4 := nq4.frozen 0
  have nq4_5 := nq4.frozen 1
  have nq4_6 := nq4.frozen 2
  have nq4_7 := nq4.frozen 3
  have nq4l := nq4.lt
  clear hb4c hb4f
  go_wp2_with fail
  refine bodyPost_ret (by simp [results, Try.results32, go_sem, *]; try rfl) rfl ?_
  exact ⟨rfl, by (repeat' (first | (with_reducible exact Below.refl _ _) | (with_reducible assumption) | (with_reducible refine Below.drew ?_) | (with_reducible refine below_drewN ?_ _) | ((with_reducible refine Below.alloc ?_ ?_ _); rotate_left; focus (go_size; done)) | ((with_reducible refine Below.setCell ?_ ?_ _); rotate_left; focus (go_size; done)) | ((with_reducible refine Below.trans ?_ (Below.mono (by with_reducible assumption) ?_)); rotate_left; focus (go_size; done))))⟩
set_option maxRecDepth 100000 in
set_option maxHeartbeats 4000000 in
theorem prev_w (b : Bool) (x1 x0 s : Int) (f0 : Bool) (f1 f2 f3 : Int) (n0 : Bool) (n1 n2 n3 ee : Int) (m0 : Bool) (m1 m2 m3 : Int)
    (H1 : ∀ g W, Bk W g 26 [.bool b, .int .u64 x1, .int .u64 x0, .int .i64 s] → Calls Try.prog 46 #[.slice (some ⟨g, 0, none⟩) 1 1] W fun e w' => e = .returned (.int .i64 0) ∧ Below W.heap.size W w')
    (H2 : ∀ W, Calls Try.prog 50 #[.agg #[.bool b, .int .u64 x1, .int .u64 x0, .int .i64 s]] W fun e w' => e = .returned (.agg #[.bool f0, .int .u64 f1, .int .u64 f2, .int .i64 f3]) ∧ Below W.heap.size W w')
    (H3 : ∀ W, Calls Try.prog 31 #[.agg #[.bool f0, .int .u64 f1, .int .u64 f2, .int .i64 f3]] W fun e w' => e = .returned (.tuple #[.agg #[.bool n0, .int .u64 n1, .int .u64 n2, .int .i64 n3], .int .i64 ee]) ∧ Below W.heap.size W w')
    (H4 : ∀ W, Calls Try.prog 50 #[.agg #[.bool n0, .int .u64 n1, .int .u64 n2, .int .i64 n3]] W fun e w' => e = .returned (.agg #[.bool m0, .int .u64 m1, .int .u64 m2, .int .i64 m3]) ∧ Below W.heap.size W w')
    (w : World) : Calls Try.prog 33 #[.agg #[.bool b, .int .u64 x1, .int .u64 x0, .int .i64 s]] w fun e w' => e = .returned (.tuple #[.agg #[.bool m0, .int .u64 m1, .int .u64 m2, .int .i64 m3], .int .i64 ee]) ∧ Below w.heap.size w w' := by
  have K1 := Lib.hid H1
  have K2 := Lib.hid H2
  have K3 := Lib.hid H3
  have K4 := Lib.hid H4
  clear H1 H2 H3 H4
  go_enter Try.func33, Try.ntmps33
  go_wp2_with fail
  (with_reducible refine (K1.out _ _ ?hg).mono ?_)
  case hg => ((repeat (first | (with_reducible assumption) | ((with_reducible refine Bk.new_ ?_); (first | rfl | (simp only [World.size_alloc, World.size_setCell, World.size_drew, World.heap_drewN]; done))) | (with_reducible refine Bk.alloc ?_ _) | (with_reducible refine Bk.drew ?_) | (with_reducible refine Bk.drewN ?_ _) | ((with_reducible refine Bk.far ?_ ?_ _); rotate_left; focus (simp only []; omega)) | ((with_reducible refine Bk.below ?_ (by with_reducible assumption) ?_); rotate_left; focus (go_size; done)))); done)
  rintro _ w1 ⟨rfl, hb1⟩; have hb1s := hb1.size; (try simp only [World.size_alloc, World.size_setCell, World.size_drew, World.heap_drewN] at hb1s); obtain ⟨hb1c, hb1f⟩ := bcell hb1; (try have : w.heap.size < w1.heap.size := by omega); (try have : w.heap.size + 1 < w1.heap.size := by omega); (try have : w.heap.size + 1 + 1 < w1.heap.size := by omega); (try have : w.heap.size + 1 + 1 + 1 < w1.heap.size := by omega)
  have aq1 : Bk w1 (w.heap.size) 26 [.bool b, .int .u64 x1, .int .u64 x0, .int .i64 s] := by (repeat (first | (with_reducible assumption) | ((with_reducible refine Bk.new_ ?_); (first | rfl | (simp only [World.size_alloc, World.size_setCell, World.size_drew, World.heap_drewN]; done))) | (with_reducible refine Bk.alloc ?_ _) | (with_reducible refine Bk.drew ?_) | (with_reducible refine Bk.drewN ?_ _) | ((with_reducible refine Bk.far ?_ ?_ _); rotate_left; focus (simp only []; omega)) | ((with_reducible refine Bk.below ?_ (by with_reducible assumption) ?_); rotate_left; focus (go_size; done))))
  have aq1_0 := aq1.cell 0 rfl
  have aq1_1 := aq1.cell 1 rfl
  have aq1_2 := aq1.cell 2 rfl
  have aq1_3 := aq1.cell 3 rfl
  have aq1_4 := aq1.frozen 0
  have aq1_5 := aq1.frozen 1
  have aq1_6 := aq1.frozen 2
  have aq1_7 := aq1.frozen 3
  have aq1l := aq1.lt
  have rq1 : Bk w1 (w.heap.size + 1) 26 [.bool false, .int .u64 0, .int .u64 0, .int .i64 0] := by (repeat (first | (with_reducible assumption) | ((with_reducible refine Bk.new_ ?_); (first | rfl | (simp only [World.size_alloc, World.size_setCell, World.size_drew, World.heap_drewN]; done))) | (with_reducible refine Bk.alloc ?_ _) | (with_reducible refine Bk.drew ?_) | (with_reducible refine Bk.drewN ?_ _) | ((with_reducible refine Bk.far ?_ ?_ _); rotate_left; focus (simp only []; omega)) | ((with_reducible refine Bk.below ?_ (by with_reducible assumption) ?_); rotate_left; focus (go_size; done))))
  have rq1_0 := rq1.cell 0 rfl
  have rq1_1 := rq1.cell 1 rfl
  have rq1_2 := rq1.cell 2 rfl
  have rq1_3 := rq1.cell 3 rfl
  have rq1_4 := rq1.frozen 0
  have rq1_5 := rq1.frozen 1
  have rq1_6 := rq1.frozen 2
  have rq1_7 := rq1.frozen 3
  have rq1l := rq1.lt
  clear hb1c hb1f
  go_wp2_with fail
  refine calls_named (fun W => Bk W (w.heap.size) 26 [.bool b, .int .u64 x1, .int .u64 x0, .int .i64 s] ∧ Bk W (w.heap.size + 1) 26 [.bool false, .int .u64 0, .int .u64 0, .int .i64 0] ∧ Below w.heap.size w W) ⟨?h0, ?h1, ?h2⟩ ?_
  case h0 => ((repeat (first | (with_reducible assumption) | ((with_reducible refine Bk.new_ ?_); (first | rfl | (simp only [World.size_alloc, World.size_setCell, World.size_drew, World.heap_drewN]; done))) | (with_reducible refine Bk.alloc ?_ _) | (with_reducible refine Bk.drew ?_) | (with_reducible refine Bk.drewN ?_ _) | ((with_reducible refine Bk.far ?_ ?_ _); rotate_left; focus (simp only []; omega)) | ((with_reducible refine Bk.below ?_ (by with_reducible assumption) ?_); rotate_left; focus (go_size; done)))); done)
  case h1 => ((repeat (first | (with_reducible assumption) | ((with_reducible refine Bk.new_ ?_); (first | rfl | (simp only [World.size_alloc, World.size_setCell, World.size_drew, World.heap_drewN]; done))) | (with_reducible refine Bk.alloc ?_ _) | (with_reducible refine Bk.drew ?_) | (with_reducible refine Bk.drewN ?_ _) | ((with_reducible refine Bk.far ?_ ?_ _); rotate_left; focus (simp only []; omega)) | ((with_reducible refine Bk.below ?_ (by with_reducible assumption) ?_); rotate_left; focus (go_size; done)))); done)
  case h2 => ((repeat' (first | (with_reducible exact Below.refl _ _) | (with_reducible assumption) | (with_reducible refine Below.drew ?_) | (with_reducible refine below_drewN ?_ _) | ((with_reducible refine Below.alloc ?_ ?_ _); rotate_left; focus (go_size; done)) | ((with_reducible refine Below.setCell ?_ ?_ _); rotate_left; focus (go_size; done)) | ((with_reducible refine Below.trans ?_ (Below.mono (by with_reducible assumption) ?_)); rotate_left; focus (go_size; done)))); done)
  clear aq1_0 aq1_1 aq1_2 aq1_3 aq1_4 aq1_5 aq1_6 aq1_7
  clear rq1_0 rq1_1 rq1_2 rq1_3 rq1_4 rq1_5 rq1_6 rq1_7
  try clear hb1 hb1s
  try clear aq1 aq1l
  try clear rq1 rq1l
  try clear kal
  try clear krl
  try clear ka
  try clear kr
  try clear kw
  rintro W1 ⟨ka, kr, kw⟩
  have kal := ka.lt
  have krl := kr.lt
  refine (K2.out _).mono ?_
  rintro _ w2 ⟨rfl, hb2⟩; have hb2s := hb2.size; (try simp only [World.size_alloc, World.size_setCell, World.size_drew, World.heap_drewN] at hb2s); obtain ⟨hb2c, hb2f⟩ := bcell hb2; (try have : w.heap.size < w2.heap.size := by omega); (try have : w.heap.size + 1 < w2.heap.size := by omega); (try have : w.heap.size + 1 + 1 < w2.heap.size := by omega); (try have : w.heap.size + 1 + 1 + 1 < w2.heap.size := by omega)
  have aq2 : Bk w2 (w.heap.size) 26 [.bool b, .int .u64 x1, .int .u64 x0, .int .i64 s] := by (repeat (first | (with_reducible assumption) | ((with_reducible refine Bk.new_ ?_); (first | rfl | (simp only [World.size_alloc, World.size_setCell, World.size_drew, World.heap_drewN]; done))) | (with_reducible refine Bk.alloc ?_ _) | (with_reducible refine Bk.drew ?_) | (with_reducible refine Bk.drewN ?_ _) | ((with_reducible refine Bk.far ?_ ?_ _); rotate_left; focus (simp only []; omega)) | ((with_reducible refine Bk.below ?_ (by with_reducible assumption) ?_); rotate_left; focus (go_size; done))))
  have aq2_0 := aq2.cell 0 rfl
  have aq2_1 := aq2.cell 1 rfl
  have aq2_2 := aq2.cell 2 rfl
  have aq2_3 := aq2.cell 3 rfl
  have aq2_4 := aq2.frozen 0
  have aq2_5 := aq2.frozen 1
  have aq2_6 := aq2.frozen 2
  have aq2_7 := aq2.frozen 3
  have aq2l := aq2.lt
  have rq2 : Bk w2 (w.heap.size + 1) 26 [.bool false, .int .u64 0, .int .u64 0, .int .i64 0] := by (repeat (first | (with_reducible assumption) | ((with_reducible refine Bk.new_ ?_); (first | rfl | (simp only [World.size_alloc, World.size_setCell, World.size_drew, World.heap_drewN]; done))) | (with_reducible refine Bk.alloc ?_ _) | (with_reducible refine Bk.drew ?_) | (with_reducible refine Bk.drewN ?_ _) | ((with_reducible refine Bk.far ?_ ?_ _); rotate_left; focus (simp only []; omega)) | ((with_reducible refine Bk.below ?_ (by with_reducible assumption) ?_); rotate_left; focus (go_size; done))))
  have rq2_0 := rq2.cell 0 rfl
  have rq2_1 := rq2.cell 1 rfl
  have rq2_2 := rq2.cell 2 rfl
  have rq2_3 := rq2.cell 3 rfl
  have rq2_4 := rq2.frozen 0
  have rq2_5 := rq2.frozen 1
  have rq2_6 := rq2.frozen 2
  have rq2_7 := rq2.frozen 3
  have rq2l := rq2.lt
  clear hb2c hb2f
  go_wp2_with fail
  refine calls_named (fun W => Bk W (w.heap.size) 26 [.bool b, .int .u64 x1, .int .u64 x0, .int .i64 s] ∧ Bk W (w.heap.size + 1) 26 [.bool false, .int .u64 0, .int .u64 0, .int .i64 0] ∧ Below w.heap.size w W) ⟨?h0, ?h1, ?h2⟩ ?_
  case h0 => ((repeat (first | (with_reducible assumption) | ((with_reducible refine Bk.new_ ?_); (first | rfl | (simp only [World.size_alloc, World.size_setCell, World.size_drew, World.heap_drewN]; done))) | (with_reducible refine Bk.alloc ?_ _) | (with_reducible refine Bk.drew ?_) | (with_reducible refine Bk.drewN ?_ _) | ((with_reducible refine Bk.far ?_ ?_ _); rotate_left; focus (simp only []; omega)) | ((with_reducible refine Bk.below ?_ (by with_reducible assumption) ?_); rotate_left; focus (go_size; done)))); done)
  case h1 => ((repeat (first | (with_reducible assumption) | ((with_reducible refine Bk.new_ ?_); (first | rfl | (simp only [World.size_alloc, World.size_setCell, World.size_drew, World.heap_drewN]; done))) | (with_reducible refine Bk.alloc ?_ _) | (with_reducible refine Bk.drew ?_) | (with_reducible refine Bk.drewN ?_ _) | ((with_reducible refine Bk.far ?_ ?_ _); rotate_left; focus (simp only []; omega)) | ((with_reducible refine Bk.below ?_ (by with_reducible assumption) ?_); rotate_left; focus (go_size; done)))); done)
  case h2 => ((repeat' (first | (with_reducible exact Below.refl _ _) | (with_reducible assumption) | (with_reducible refine Below.drew ?_) | (with_reducible refine below_drewN ?_ _) | ((with_reducible refine Below.alloc ?_ ?_ _); rotate_left; focus (go_size; done)) | ((with_reducible refine Below.setCell ?_ ?_ _); rotate_left; focus (go_size; done)) | ((with_reducible refine Below.trans ?_ (Below.mono (by with_reducible assumption) ?_)); rotate_left; focus (go_size; done)))); done)
  clear aq2_0 aq2_1 aq2_2 aq2_3 aq2_4 aq2_5 aq2_6 aq2_7
  clear rq2_0 rq2_1 rq2_2 rq2_3 rq2_4 rq2_5 rq2_6 rq2_7
  try clear hb2 hb2s
  try clear aq2 aq2l
  try clear rq2 rq2l
  try clear kal
  try clear krl
  try clear ka
  try clear kr
  try clear kw
  rintro W2 ⟨ka, kr, kw⟩
  have kal := ka.lt
  have krl := kr.lt
  refine (K3.out _).mono ?_
  rintro _ w3 ⟨rfl, hb3⟩; have hb3s := hb3.size; (try simp only [World.size_alloc, World.size_setCell, World.size_drew, World.heap_drewN] at hb3s); obtain ⟨hb3c, hb3f⟩ := bcell hb3; (try have : w.heap.size < w3.heap.size := by omega); (try have : w.heap.size + 1 < w3.heap.size := by omega); (try have : w.heap.size + 1 + 1 < w3.heap.size := by omega); (try have : w.heap.size + 1 + 1 + 1 < w3.heap.size := by omega)
  have aq3 : Bk w3 (w.heap.size) 26 [.bool b, .int .u64 x1, .int .u64 x0, .int .i64 s] := by (repeat (first | (with_reducible assumption) | ((with_reducible refine Bk.new_ ?_); (first | rfl | (simp only [World.size_alloc, World.size_setCell, World.size_drew, World.heap_drewN]; done))) | (with_reducible refine Bk.alloc ?_ _) | (with_reducible refine Bk.drew ?_) | (with_reducible refine Bk.drewN ?_ _) | ((with_reducible refine Bk.far ?_ ?_ _); rotate_left; focus (simp only []; omega)) | ((with_reducible refine Bk.below ?_ (by with_reducible assumption) ?_); rotate_left; focus (go_size; done))))
  have aq3_0 := aq3.cell 0 rfl
  have aq3_1 := aq3.cell 1 rfl
  have aq3_2 := aq3.cell 2 rfl
  have aq3_3 := aq3.cell 3 rfl
  have aq3_4 := aq3.frozen 0
  have aq3_5 := aq3.frozen 1
  have aq3_6 := aq3.frozen 2
  have aq3_7 := aq3.frozen 3
  have aq3l := aq3.lt
  have rq3 : Bk w3 (w.heap.size + 1) 26 [.bool false, .int .u64 0, .int .u64 0, .int .i64 0] := by (repeat (first | (with_reducible assumption) | ((with_reducible refine Bk.new_ ?_); (first | rfl | (simp only [World.size_alloc, World.size_setCell, World.size_drew, World.heap_drewN]; done))) | (with_reducible refine Bk.alloc ?_ _) | (with_reducible refine Bk.drew ?_) | (with_reducible refine Bk.drewN ?_ _) | ((with_reducible refine Bk.far ?_ ?_ _); rotate_left; focus (simp only []; omega)) | ((with_reducible refine Bk.below ?_ (by with_reducible assumption) ?_); rotate_left; focus (go_size; done))))
  have rq3_0 := rq3.cell 0 rfl
  have rq3_1 := rq3.cell 1 rfl
  have rq3_2 := rq3.cell 2 rfl
  have rq3_3 := rq3.cell 3 rfl
  have rq3_4 := rq3.frozen 0
  have rq3_5 := rq3.frozen 1
  have rq3_6 := rq3.frozen 2
  have rq3_7 := rq3.frozen 3
  have rq3l := rq3.lt
  clear hb3c hb3f
  go_wp2_with fail
  obtain ⟨gn, hgn⟩ : ∃ gn, gn = w3.heap.size := ⟨_, rfl⟩
  refine calls_named (fun W => Bk W (w.heap.size) 26 [.bool b, .int .u64 x1, .int .u64 x0, .int .i64 s] ∧ Bk W (w.heap.size + 1) 26 [.bool false, .int .u64 0, .int .u64 0, .int .i64 0] ∧ Bk W w3.heap.size 26 [.bool n0, .int .u64 n1, .int .u64 n2, .int .i64 n3] ∧ Below w.heap.size w W) ⟨?h0, ?h1, ?h2, ?h3⟩ ?_
  case h0 => ((repeat (first | (with_reducible assumption) | ((with_reducible refine Bk.new_ ?_); (first | rfl | (simp only [World.size_alloc, World.size_setCell, World.size_drew, World.heap_drewN]; done))) | (with_reducible refine Bk.alloc ?_ _) | (with_reducible refine Bk.drew ?_) | (with_reducible refine Bk.drewN ?_ _) | ((with_reducible refine Bk.far ?_ ?_ _); rotate_left; focus (simp only []; omega)) | ((with_reducible refine Bk.below ?_ (by with_reducible assumption) ?_); rotate_left; focus (go_size; done)))); done)
  case h1 => ((repeat (first | (with_reducible assumption) | ((with_reducible refine Bk.new_ ?_); (first | rfl | (simp only [World.size_alloc, World.size_setCell, World.size_drew, World.heap_drewN]; done))) | (with_reducible refine Bk.alloc ?_ _) | (with_reducible refine Bk.drew ?_) | (with_reducible refine Bk.drewN ?_ _) | ((with_reducible refine Bk.far ?_ ?_ _); rotate_left; focus (simp only []; omega)) | ((with_reducible refine Bk.below ?_ (by with_reducible assumption) ?_); rotate_left; focus (go_size; done)))); done)
  case h2 => ((repeat (first | (with_reducible assumption) | ((with_reducible refine Bk.new_ ?_); (first | rfl | (simp only [World.size_alloc, World.size_setCell, World.size_drew, World.heap_drewN]; done))) | (with_reducible refine Bk.alloc ?_ _) | (with_reducible refine Bk.drew ?_) | (with_reducible refine Bk.drewN ?_ _) | ((with_reducible refine Bk.far ?_ ?_ _); rotate_left; focus (simp only []; omega)) | ((with_reducible refine Bk.below ?_ (by with_reducible assumption) ?_); rotate_left; focus (go_size; done)))); done)
  case h3 => ((repeat' (first | (with_reducible exact Below.refl _ _) | (with_reducible assumption) | (with_reducible refine Below.drew ?_) | (with_reducible refine below_drewN ?_ _) | ((with_reducible refine Below.alloc ?_ ?_ _); rotate_left; focus (go_size; done)) | ((with_reducible refine Below.setCell ?_ ?_ _); rotate_left; focus (go_size; done)) | ((with_reducible refine Below.trans ?_ (Below.mono (by with_reducible assumption) ?_)); rotate_left; focus (go_size; done)))); done)
  clear aq3_0 aq3_1 aq3_2 aq3_3 aq3_4 aq3_5 aq3_6 aq3_7
  clear rq3_0 rq3_1 rq3_2 rq3_3 rq3_4 rq3_5 rq3_6 rq3_7
  rw [← hgn]
  have gn_a : w.heap.size < gn := by omega
  have gn_r : w.heap.size + 1 < gn := by omega
  clear hgn
  try clear hb3 hb3s
  try clear aq3 aq3l
  try clear rq3 rq3l
  try clear kal
  try clear krl
  try clear ka
  try clear kr
  try clear kw
  rintro W3 ⟨ka, kr, kn, kw⟩
  have kal := ka.lt
  have krl := kr.lt
  have knl := kn.lt
  refine (K4.out _).mono ?_
  rintro _ w4 ⟨rfl, hb4⟩; have hb4s := hb4.size; (try simp only [World.size_alloc, World.size_setCell, World.size_drew, World.heap_drewN] at hb4s); obtain ⟨hb4c, hb4f⟩ := bcell hb4; (try have : w.heap.size < w4.heap.size := by omega); (try have : w.heap.size + 1 < w4.heap.size := by omega); (try have : w.heap.size + 1 + 1 < w4.heap.size := by omega); (try have : w.heap.size + 1 + 1 + 1 < w4.heap.size := by omega)
  have aq4 : Bk w4 (w.heap.size) 26 [.bool b, .int .u64 x1, .int .u64 x0, .int .i64 s] := by (repeat (first | (with_reducible assumption) | ((with_reducible refine Bk.new_ ?_); (first | rfl | (simp only [World.size_alloc, World.size_setCell, World.size_drew, World.heap_drewN]; done))) | (with_reducible refine Bk.alloc ?_ _) | (with_reducible refine Bk.drew ?_) | (with_reducible refine Bk.drewN ?_ _) | ((with_reducible refine Bk.far ?_ ?_ _); rotate_left; focus (simp only []; omega)) | ((with_reducible refine Bk.below ?_ (by with_reducible assumption) ?_); rotate_left; focus (go_size; done))))
  have aq4_0 := aq4.cell 0 rfl
  have aq4_1 := aq4.cell 1 rfl
  have aq4_2 := aq4.cell 2 rfl
  have aq4_3 := aq4.cell 3 rfl
  have aq4_4 := aq4.frozen 0
  have aq4_5 := aq4.frozen 1
  have aq4_6 := aq4.frozen 2
  have aq4_7 := aq4.frozen 3
  have aq4l := aq4.lt
  have rq4 : Bk w4 (w.heap.size + 1) 26 [.bool false, .int .u64 0, .int .u64 0, .int .i64 0] := by (repeat (first | (with_reducible assumption) | ((with_reducible refine Bk.new_ ?_); (first | rfl | (simp only [World.size_alloc, World.size_setCell, World.size_drew, World.heap_drewN]; done))) | (with_reducible refine Bk.alloc ?_ _) | (with_reducible refine Bk.drew ?_) | (with_reducible refine Bk.drewN ?_ _) | ((with_reducible refine Bk.far ?_ ?_ _); rotate_left; focus (simp only []; omega)) | ((with_reducible refine Bk.below ?_ (by with_reducible assumption) ?_); rotate_left; focus (go_size; done))))
  have rq4_0 := rq4.cell 0 rfl
  have rq4_1 := rq4.cell 1 rfl
  have rq4_2 := rq4.cell 2 rfl
  have rq4_3 := rq4.cell 3 rfl
  have rq4_4 := rq4.frozen 0
  have rq4_5 := rq4.frozen 1
  have rq4_6 := rq4.frozen 2
  have rq4_7 := rq4.frozen 3
  have rq4l := rq4.lt
  have nq4 : Bk w4 (gn) 26 [.bool n0, .int .u64 n1, .int .u64 n2, .int .i64 n3] := by (repeat (first | (with_reducible assumption) | ((with_reducible refine Bk.new_ ?_); (first | rfl | (simp only [World.size_alloc, World.size_setCell, World.size_drew, World.heap_drewN]; done))) | (with_reducible refine Bk.alloc ?_ _) | (with_reducible refine Bk.drew ?_) | (with_reducible refine Bk.drewN ?_ _) | ((with_reducible refine Bk.far ?_ ?_ _); rotate_left; focus (simp only []; omega)) | ((with_reducible refine Bk.below ?_ (by with_reducible assumption) ?_); rotate_left; focus (go_size; done))))
  have nq4_0 := nq4.cell 0 rfl
  have nq4_1 := nq4.cell 1 rfl
  have nq4_2 := nq4.cell 2 rfl
  have nq4_3 := nq4.cell 3 rfl
  have nq4_4 := nq4.frozen 0
  have nq4_5 := nq4.frozen 1
  have nq4_6 := nq4.frozen 2
  have nq4_7 := nq4.frozen 3
  have nq4l := nq4.lt
  clear hb4c hb4f
  go_wp2_with fail
  refine bodyPost_ret (by simp [results, Try.results33, go_sem, *]; try rfl) rfl ?_
  exact ⟨rfl, by (repeat' (first | (with_reducible exact Below.refl _ _) | (with_reducible assumption) | (with_reducible refine Below.drew ?_) | (with_reducible refine below_drewN ?_ _) | ((with_reducible refine Below.alloc ?_ ?_ _); rotate_left; focus (go_size; done)) | ((with_reducible refine Below.setCell ?_ ?_ _); rotate_left; focus (go_size; done)) | ((with_reducible refine Below.trans ?_ (Below.mono (by with_reducible assumption) ?_)); rotate_left; focus (go_size; done))))⟩
set_option maxHeartbeats 2000000 in
theorem docnext_bad (b : Bool) (c : Nat) (s : Int) (hc : c < 2 ^ 128) (h : dform b c s = false) (w : World) : Calls Try.prog 30 #[.agg #[.bool b, .int .u64 (wd (c) 1), .int .u64 (wd (c) 0), .int .i64 s]] w fun e w' => e = .returned (.tuple #[.agg #[.bool false, .int .u64 0, .int .u64 0, .int .i64 0], .int .i64 2]) ∧ Below w.heap.size w w' := by
  have HF := Lib.hid (fun W => rform_any b c s hc W)
  rw [h] at HF
  generalize wd c 0 = x0 at *
  generalize wd c 1 = x1 at *
  clear hc h
  go_enter Try.func30, Try.ntmps30
  go_wp2_with fail
  refine (HF.out _).mono ?_
  rintro _ w1 ⟨rfl, hb1⟩; have hb1s := hb1.size; (try simp only [World.size_alloc, World.size_setCell, World.size_drew, World.heap_drewN] at hb1s); obtain ⟨hb1c, hb1f⟩ := bcell hb1; (try have : w.heap.size < w1.heap.size := by omega); (try have : w.heap.size + 1 < w1.heap.size := by omega); (try have : w.heap.size + 1 + 1 < w1.heap.size := by omega); (try have : w.heap.size + 1 + 1 + 1 < w1.heap.size := by omega)
  have r0 : Bk w1 (w.heap.size + 1) 26 [.bool false, .int .u64 0, .int .u64 0, .int .i64 0] := by (repeat (first | (with_reducible assumption) | ((with_reducible refine Bk.new_ ?_); (first | rfl | (simp only [World.size_alloc, World.size_setCell, World.size_drew, World.heap_drewN]; done))) | (with_reducible refine Bk.alloc ?_ _) | (with_reducible refine Bk.drew ?_) | (with_reducible refine Bk.drewN ?_ _) | ((with_reducible refine Bk.far ?_ ?_ _); rotate_left; focus (simp only []; omega)) | ((with_reducible refine Bk.below ?_ (by with_reducible assumption) ?_); rotate_left; focus (go_size; done))))
  have r0_0 := r0.cell 0 rfl
  have r0_1 := r0.cell 1 rfl
  have r0_2 := r0.cell 2 rfl
  have r0_3 := r0.cell 3 rfl
  have r0_4 := r0.frozen 0
  have r0_5 := r0.frozen 1
  have r0_6 := r0.frozen 2
  have r0_7 := r0.frozen 3
  have r0l := r0.lt
  clear hb1c hb1f r0
  go_wp2_with fail
  refine bodyPost_ret (by simp [results, Try.results30, go_sem, *]; try rfl) rfl ?_
  exact ⟨rfl, by (repeat' (first | (with_reducible exact Below.refl _ _) | (with_reducible assumption) | (with_reducible refine Below.drew ?_) | (with_reducible refine below_drewN ?_ _) | ((with_reducible refine Below.alloc ?_ ?_ _); rotate_left; focus (go_size; done)) | ((with_reducible refine Below.setCell ?_ ?_ _); rotate_left; focus (go_size; done)) | ((with_reducible refine Below.trans ?_ (Below.mono (by with_reducible assumption) ?_)); rotate_left; focus (go_size; done))))⟩
set_option maxHeartbeats 2000000 in
theorem docprev_bad (b : Bool) (c : Nat) (s : Int) (hc : c < 2 ^ 128) (h : dform b c s = false) (w : World) : Calls Try.prog 32 #[.agg #[.bool b, .int .u64 (wd (c) 1), .int .u64 (wd (c) 0), .int .i64 s]] w fun e w' => e = .returned (.tuple #[.agg #[.bool false, .int .u64 0, .int .u64 0, .int .i64 0], .int .i64 2]) ∧ Below w.heap.size w w' := by
  have HF := Lib.hid (fun W => rform_any b c s hc W)
  rw [h] at HF
  generalize wd c 0 = x0 at *
  generalize wd c 1 = x1 at *
  clear hc h
  go_enter Try.func32, Try.ntmps32
  go_wp2_with fail
  refine (HF.out _).mono ?_
  rintro _ w1 ⟨rfl, hb1⟩; have hb1s := hb1.size; (try simp only [World.size_alloc, World.size_setCell, World.size_drew, World.heap_drewN] at hb1s); obtain ⟨hb1c, hb1f⟩ := bcell hb1; (try have : w.heap.size < w1.heap.size := by omega); (try have : w.heap.size + 1 < w1.heap.size := by omega); (try have : w.heap.size + 1 + 1 < w1.heap.size := by omega); (try have : w.heap.size + 1 + 1 + 1 < w1.heap.size := by omega)
  have r0 : Bk w1 (w.heap.size + 1) 26 [.bool false, .int .u64 0, .int .u64 0, .int .i64 0] := by (repeat (first | (with_reducible assumption) | ((with_reducible refine Bk.new_ ?_); (first | rfl | (simp only [World.size_alloc, World.size_setCell, World.size_drew, World.heap_drewN]; done))) | (with_reducible refine Bk.alloc ?_ _) | (with_reducible refine Bk.drew ?_) | (with_reducible refine Bk.drewN ?_ _) | ((with_reducible refine Bk.far ?_ ?_ _); rotate_left; focus (simp only []; omega)) | ((with_reducible refine Bk.below ?_ (by with_reducible assumption) ?_); rotate_left; focus (go_size; done))))
  have r0_0 := r0.cell 0 rfl
  have r0_1 := r0.cell 1 rfl
  have r0_2 := r0.cell 2 rfl
  have r0_3 := r0.cell 3 rfl
  have r0_4 := r0.frozen 0
  have r0_5 := r0.frozen 1
  have r0_6 := r0.frozen 2
  have r0_7 := r0.frozen 3
  have r0l := r0.lt
  clear hb1c hb1f r0
  go_wp2_with fail
  refine bodyPost_ret (by simp [results, Try.results32, go_sem, *]; try rfl) rfl ?_
  exact ⟨rfl, by (repeat' (first | (with_reducible exact Below.refl _ _) | (with_reducible assumption) | (with_reducible refine Below.drew ?_) | (with_reducible refine below_drewN ?_ _) | ((with_reducible refine Below.alloc ?_ ?_ _); rotate_left; focus (go_size; done)) | ((with_reducible refine Below.setCell ?_ ?_ _); rotate_left; focus (go_size; done)) | ((with_reducible refine Below.trans ?_ (Below.mono (by with_reducible assumption) ?_)); rotate_left; focus (go_size; done))))⟩
theorem nbc_lt (r : Nat × Bool) : NbC r < B34 := by
  unfold NbC; split
  · exact (fit_form false _ _).1
  · exact B34_pos
theorem docnext_ok (b : Bool) (c s : Nat) (hc : c < B34) (hs : s ≤ 18) (h : dform b c s = true) (hb : c = 0 → b = false) (w : World) : Calls Try.prog 30 #[.agg #[.bool b, .int .u64 (wd (c) 1), .int .u64 (wd (c) 0), .int .i64 s]] w fun e w' => e = .returned (.tuple #[.agg #[.bool (nextN b c s), .int .u64 (wd ((NbC (nb c s b))) 1), .int .u64 (wd ((NbC (nb c s b))) 0), .int .i64 (NbS (nb c s b))], .int .i64 (NbE (nb c s b))]) ∧ Below w.heap.size w w' := by
  have hc2 := Nat.lt_trans hc B34_lt
  have hf := fun W => rform_any b c s hc2 W
  rw [h] at hf
  have hu := fun W => rup_any b c s b hc hs (fun h0 h1 => by have := hb h1; rw [this] at h0; cases h0) W
  have hC : NbC (nb c s b) < 2 ^ 128 := Nat.lt_trans (nbc_lt _) B34_lt
  unfold nextN
  cases b
  · exact docnext_f _ _ _ _ _ _ _ _ hf hu w
  · exact docnext_t _ _ _ _ _ _ _ _ _ _ _ _ hf hu (fun W => flip_any false _ _ hC W) w
/-- the sign of the next one below -/
def prevN (b : Bool) (c s : Nat) : Bool := sg (!(nextN (sg (!b) c) c s)) (NbC (nb c s (sg (!b) c)))
theorem docprev_ok (b : Bool) (c s : Nat) (hc : c < B34) (hs : s ≤ 18) (h : dform b c s = true) (w : World) : Calls Try.prog 32 #[.agg #[.bool b, .int .u64 (wd (c) 1), .int .u64 (wd (c) 0), .int .i64 s]] w fun e w' => e = .returned (.tuple #[.agg #[.bool (prevN b c s), .int .u64 (wd ((NbC (nb c s (sg (!b) c)))) 1), .int .u64 (wd ((NbC (nb c s (sg (!b) c)))) 0), .int .i64 (NbS (nb c s (sg (!b) c)))], .int .i64 (NbE (nb c s (sg (!b) c)))]) ∧ Below w.heap.size w w' := by
  have hc2 := Nat.lt_trans hc B34_lt
  have hf := fun W => rform_any b c s hc2 W
  rw [h] at hf
  have hC : NbC (nb c s (sg (!b) c)) < 2 ^ 128 := Nat.lt_trans (nbc_lt _) B34_lt
  exact docprev_w _ _ _ _ _ _ _ _ _ _ _ _ _ _ _ _ _ hf (fun W => flip_any b c s hc2 W) (fun W => docnext_ok (sg (!b) c) c s hc hs (dform_turn h) (fun h0 => by rw [h0, sg_zero]) W) (fun W => flip_any _ _ _ hC W) w
theorem prev_ok (b : Bool) (c s : Nat) (hc : c < B34) (hs : s ≤ 18) (h : dform b c s = true) (w : World) : Calls Try.prog 33 #[.agg #[.bool b, .int .u64 (wd (c) 1), .int .u64 (wd (c) 0), .int .i64 s]] w fun e w' => e = .returned (.tuple #[.agg #[.bool (prevN b c s), .int .u64 (wd ((NbC (nb c s (sg (!b) c)))) 1), .int .u64 (wd ((NbC (nb c s (sg (!b) c)))) 0), .int .i64 (NbS (nb c s (sg (!b) c)))], .int .i64 (NbE (nb c s (sg (!b) c)))]) ∧ Below w.heap.size w w' := by
  have hc2 := Nat.lt_trans hc B34_lt
  have hf := fun g W hg => formed_one b c s hc2 g W hg
  rw [h] at hf
  have hC : NbC (nb c s (sg (!b) c)) < 2 ^ 128 := Nat.lt_trans (nbc_lt _) B34_lt
  exact prev_w _ _ _ _ _ _ _ _ _ _ _ _ _ _ _ _ _ hf (fun W => turned_any b c s hc2 W) (fun W => next_ok (sg (!b) c) c s hc hs (dform_turn h) (fun h0 => by rw [h0, sg_zero]) W) (fun W => turned_any _ _ _ hC W) w
end Go.Proofs.Ythkgjodidkpaeaa

set_option linter.unusedSimpArgs false
set_option linter.unusedVariables false
namespace Go.Proofs.Ythkgjodidkpaeaa
open Go.RowKit
set_option maxRecDepth 100000 in
theorem open_long {H : Type} {enc : TypeId × Value → H} {W : World} {base b0 : Nat} {v : Value} {d : DataW H} {p : List MemPlace} {sp : Nat → Bool} {held : Bool}
    (hv : Value.okWide Try.prog W .any base 45 v) (h : DataW.Trod enc Try.prog W b0 sp held 45 v d p) :
    ∃ a0 a1 a2 a3 : Int, v = .agg #[.int .u64 a0, .int .u64 a1, .int .u64 a2, .int .u64 a3] ∧ (Lit.int .u64 a0).wf = true ∧ (Lit.int .u64 a1).wf = true ∧ (Lit.int .u64 a2).wf = true ∧ (Lit.int .u64 a3).wf = true := by
  obtain ⟨cs, rfl, hsz, _⟩ : ∃ cs, v = .agg cs ∧ cs.size = Try.prog.cellsOf 45 ∧ Row.okWide Try.prog W .any base 45 cs := by
    simpa [Value.okWide, Try.underlying45] using hv
  have hc : Try.prog.cellsOf 45 = 4 := by kernel_rfl
  have hce : Try.prog.cellsOf 22 = 1 := by kernel_rfl
  obtain ⟨c0, c1, c2, c3, rfl⟩ := Joins.array4 (hsz.trans hc)
  obtain ⟨fuel, hf⟩ := h
  obtain ⟨y0, y1, y2, y3, m, _, hy0, hy1, hy2, hy3⟩ := Go.ChangeShapes.trod_array4 Try.underlying45 hce hf
  obtain ⟨x0, e0, _, w0⟩ := DataW.trod_int Try.underlying22 hy0
  obtain ⟨x1, e1, _, w1⟩ := DataW.trod_int Try.underlying22 hy1
  obtain ⟨x2, e2, _, w2⟩ := DataW.trod_int Try.underlying22 hy2
  obtain ⟨x3, e3, _, w3⟩ := DataW.trod_int Try.underlying22 hy3
  simp at e0 e1 e2 e3
  subst e0 e1 e2 e3
  exact ⟨x0, x1, x2, x3, rfl, w0, w1, w2, w3⟩
/-- a word's bounds -/
theorem wf_word {a : Int} (h : (Lit.int .u64 a).wf = true) : 0 ≤ a ∧ a < 18446744073709551616 := by
  have := bounds_u64 h; omega
end Go.Proofs.Ythkgjodidkpaeaa

set_option linter.unusedSimpArgs false
set_option linter.unusedVariables false
namespace Go.Proofs.Ythkgjodidkpaeaa
open Go.RowKit

set_option maxRecDepth 100000 in
theorem eq_dec (b : Bool) (x y s : Int) (b' : Bool) (x' y' s' : Int) (W : World) : (binOp .eql 26 (.agg #[.bool b, .int .u64 x, .int .u64 y, .int .i64 s]) (.agg #[.bool b', .int .u64 x', .int .u64 y', .int .i64 s'])).run Try.prog W = .ok (.bool ((b == b') && ((x == x') && ((y == y') && (s == s'))))) W := by
  go_simp
  by_cases h0 : b = b' <;> by_cases h1 : x = x' <;> by_cases h2 : y = y' <;> by_cases h3 : s = s' <;> simp [h0, h1, h2, h3]
set_option maxRecDepth 100000 in
theorem neq_dec (b : Bool) (x y s : Int) (b' : Bool) (x' y' s' : Int) (W : World) : (binOp .neq 26 (.agg #[.bool b, .int .u64 x, .int .u64 y, .int .i64 s]) (.agg #[.bool b', .int .u64 x', .int .u64 y', .int .i64 s'])).run Try.prog W = .ok (.bool (!((b == b') && ((x == x') && ((y == y') && (s == s')))))) W := by
  go_simp
  by_cases h0 : b = b' <;> by_cases h1 : x = x' <;> by_cases h2 : y = y' <;> by_cases h3 : s = s' <;> simp [h0, h1, h2, h3]
theorem fit_exact {n t : Nat} (h : n < B34) (ht : t ≤ 18) : FitC n (10 ^ t) = stripC n t ∧ FitS n (10 ^ t) = stripS n t ∧ FitE n (10 ^ t) = 0 := by
  have e := near_high n t 0
  rw [Nat.add_zero, Nat.pow_zero, Nat.mul_one] at e
  unfold FitC FitS FitE
  rw [fit_top n t ht, fitK_yes (by rw [e]; exact h), e]
  exact ⟨rfl, rfl, rfl⟩
theorem kn_add (W : World) : Calls Try.prog 15 #[.agg #[.bool false, .int .u64 0, .int .u64 1, .int .i64 1], .agg #[.bool false, .int .u64 0, .int .u64 2, .int .i64 1]] W fun e w' => e = .returned (.tuple #[.agg #[.bool false, .int .u64 0, .int .u64 3, .int .i64 1], .int .i64 0]) ∧ Below W.heap.size W w' := by
  have hB : (3 : Nat) < B34 := by unfold B34; decide
  have h := add_ok false 1 1 false 2 1 ((dform_iff _ _ _).2 ⟨1, rfl, by omega, by decide, fun h => absurd h (by decide), .inr (by decide)⟩) ((dform_iff _ _ _).2 ⟨1, rfl, by omega, by decide, fun h => absurd h (by decide), .inr (by decide)⟩) (by omega) (by omega) (by decide) (by decide) W
  obtain ⟨e1, e2, e3, e4⟩ := add_units false false 1 2 1 1 1 (by decide) (by decide) rfl
  rw [e1, e2, e3, e4] at h
  obtain ⟨s1, s2⟩ := sgn_same (b := false) (b' := false) (x := 1 * 10 ^ (1 - 1)) (y := 2 * 10 ^ (1 - 1)) rfl
  rw [s1, s2] at h
  obtain ⟨f1, f2, f3⟩ := fit_exact (n := 3) (t := 1) hB (by decide)
  obtain ⟨g1, g2⟩ := strip_no (c := 3) (by decide) 1
  rw [g1] at f1
  rw [g2] at f2
  have e : 1 * 10 ^ (1 - 1) + 2 * 10 ^ (1 - 1) = 3 := by decide
  rw [e, f1, f2, f3] at h
  have a0 : wd 1 0 = 1 := by rw [wd0]; rfl
  have a1 : wd 1 1 = 0 := by rw [wd1]; rfl
  have b0 : wd 2 0 = 2 := by rw [wd0]; rfl
  have b1 : wd 2 1 = 0 := by rw [wd1]; rfl
  have c0 : wd 3 0 = 3 := by rw [wd0]; rfl
  have c1 : wd 3 1 = 0 := by rw [wd1]; rfl
  rw [a0, a1, b0, b1, c0, c1, sg_pos (by decide)] at h
  exact h
set_option maxHeartbeats 1000000 in
theorem known_any (w : World) : Calls Try.prog 11 #[] w fun e w' => e = .returned (.bool true) ∧ Below w.heap.size w w' := by
  have q : ∀ W, (binOp .eql 26 (.agg #[.bool false, .int .u64 0, .int .u64 3, .int .i64 1]) (.agg #[.bool false, .int .u64 0, .int .u64 3, .int .i64 1])).run Try.prog W = .ok (.bool true) W := fun W => eq_dec _ _ _ _ _ _ _ _ W
  go_enter Try.func11, Try.ntmps11
  go_wp2_with fail
  refine (kn_add _).mono ?_
  rintro _ w1 ⟨rfl, hb1⟩; have hb1s := hb1.size; (try simp only [World.size_alloc, World.size_setCell, World.size_drew, World.heap_drewN] at hb1s); obtain ⟨hb1c, hb1f⟩ := bcell hb1; (try have : w.heap.size < w1.heap.size := by omega); (try have : w.heap.size + 1 < w1.heap.size := by omega); (try have : w.heap.size + 1 + 1 < w1.heap.size := by omega); (try have : w.heap.size + 1 + 1 + 1 < w1.heap.size := by omega)
  go_wp2_with fail
  go_ret
  exact ⟨rfl, by (repeat' (first | (with_reducible exact Below.refl _ _) | (with_reducible assumption) | (with_reducible refine Below.drew ?_) | (with_reducible refine below_drewN ?_ _) | ((with_reducible refine Below.alloc ?_ ?_ _); rotate_left; focus (go_size; done)) | ((with_reducible refine Below.setCell ?_ ?_ _); rotate_left; focus (go_size; done)) | ((with_reducible refine Below.trans ?_ (Below.mono (by with_reducible assumption) ?_)); rotate_left; focus (go_size; done))))⟩
set_option maxRecDepth 100000 in
theorem open_dec {H : Type} {enc : TypeId × Value → H} {W : World} {base b0 : Nat} {v : Value} {d : DataW H} {p : List MemPlace} {sp : Nat → Bool} {held : Bool}
    (hv : Value.okWide Try.prog W .any base 26 v) (h : DataW.Trod enc Try.prog W b0 sp held 26 v d p) :
    ∃ (b : Bool) (a0 a1 a2 : Int), v = .agg #[.bool b, .int .u64 a0, .int .u64 a1, .int .i64 a2] ∧ (Lit.int .u64 a0).wf = true ∧ (Lit.int .u64 a1).wf = true ∧ (Lit.int .i64 a2).wf = true := by
  obtain ⟨cs, rfl, hsz⟩ := Go.WideShapes.okWide_struct Try.underlying26 hv
  have hc : Try.prog.cellsOf 26 = 4 := by kernel_rfl
  obtain ⟨c0, c1, c2, c3, rfl⟩ := Joins.array4 (hsz.trans hc)
  obtain ⟨fuel, hf⟩ := h
  obtain ⟨xs, n, _, hx, _, hlen, hg⟩ := DataW.trod_struct Try.underlying26 hf
  have n0 : Try.prog.cellsOf 4 = 1 := by kernel_rfl
  have n1 : Try.prog.cellsOf 24 = 2 := by kernel_rfl
  have n2 : Try.prog.cellsOf 3 = 1 := by kernel_rfl
  have n3 : Try.prog.cellsOf 22 = 1 := by kernel_rfl
  have g0 := hg 0 _ rfl
  have g1 := hg 1 _ rfl
  have g2 := hg 2 _ rfl
  clear hg hf hx
  match xs, hlen with
  | [y0, y1, y2], _ =>
    simp only [List.getElem_toArray, List.getElem_cons_zero, List.getElem_cons_succ, n0, n1, n2] at g0 g1 g2
    simp [Value.cells] at g0 g1 g2
    obtain ⟨b, e0, _⟩ := DataW.trod_bool Try.underlying4 g0
    obtain ⟨z2, e2, _, w2⟩ := DataW.trod_int Try.underlying3 g2
    obtain ⟨ys, n', _, _, _, hlen2, hg2⟩ := DataW.trod_struct Try.underlying24 g1
    have k0 := hg2 0 _ rfl
    have k1 := hg2 1 _ rfl
    match ys, hlen2 with
    | [q0, q1], _ =>
      simp only [List.getElem_toArray, List.getElem_cons_zero, List.getElem_cons_succ, n3] at k0 k1
      simp at k0 k1
      obtain ⟨z0, f0, _, v0⟩ := DataW.trod_int Try.underlying22 k0
      obtain ⟨z1, f1, _, v1⟩ := DataW.trod_int Try.underlying22 k1
      simp at e0 e2 f0 f1
      subst e0 e2 f0 f1
      exact ⟨b, z0, z1, z2, rfl, v0, v1, w2⟩
end Go.Proofs.Ythkgjodidkpaeaa

set_option linter.unusedSimpArgs false
set_option linter.unusedVariables false
namespace Go.Proofs.Ythkgjodidkpaeaa
open Go.RowKit

set_option maxRecDepth 100000 in
set_option maxHeartbeats 8000000 in
theorem neighbours_walk (b : Bool) (x1 x0 s : Int) (n0 : Bool) (n1 n2 n3 e1 : Int) (m0 : Bool) (m1 m2 m3 e2 : Int)
    (H1 : ∀ W, Calls Try.prog 30 #[.agg #[.bool b, .int .u64 x1, .int .u64 x0, .int .i64 s]] W fun e w' => e = .returned (.tuple #[.agg #[.bool n0, .int .u64 n1, .int .u64 n2, .int .i64 n3], .int .i64 e1]) ∧ Below W.heap.size W w')
    (H2 : ∀ W, Calls Try.prog 31 #[.agg #[.bool b, .int .u64 x1, .int .u64 x0, .int .i64 s]] W fun e w' => e = .returned (.tuple #[.agg #[.bool n0, .int .u64 n1, .int .u64 n2, .int .i64 n3], .int .i64 e1]) ∧ Below W.heap.size W w')
    (H3 : ∀ W, Calls Try.prog 32 #[.agg #[.bool b, .int .u64 x1, .int .u64 x0, .int .i64 s]] W fun e w' => e = .returned (.tuple #[.agg #[.bool m0, .int .u64 m1, .int .u64 m2, .int .i64 m3], .int .i64 e2]) ∧ Below W.heap.size W w')
    (H4 : ∀ W, Calls Try.prog 33 #[.agg #[.bool b, .int .u64 x1, .int .u64 x0, .int .i64 s]] W fun e w' => e = .returned (.tuple #[.agg #[.bool m0, .int .u64 m1, .int .u64 m2, .int .i64 m3], .int .i64 e2]) ∧ Below W.heap.size W w')
    (w : World) : Calls Try.prog 6 #[.agg #[.bool b, .int .u64 x1, .int .u64 x0, .int .i64 s]] w fun e w' => e = .returned (.bool true) ∧ Below w.heap.size w w' := by
  have K1 := Lib.hid H1
  have K2 := Lib.hid H2
  have K3 := Lib.hid H3
  have K4 := Lib.hid H4
  clear H1 H2 H3 H4
  have r1 : ∀ W, (binOp .eql 26 (.agg #[.bool n0, .int .u64 n1, .int .u64 n2, .int .i64 n3]) (.agg #[.bool n0, .int .u64 n1, .int .u64 n2, .int .i64 n3])).run Try.prog W = .ok (.bool true) W := fun W => by rw [eq_dec]; simp
  have r2 : ∀ W, (binOp .eql 26 (.agg #[.bool m0, .int .u64 m1, .int .u64 m2, .int .i64 m3]) (.agg #[.bool m0, .int .u64 m1, .int .u64 m2, .int .i64 m3])).run Try.prog W = .ok (.bool true) W := fun W => by rw [eq_dec]; simp
  go_enter Try.func6, Try.ntmps6
  go_wp2_with fail
  refine (known_any _).mono ?_
  rintro _ w1 ⟨rfl, hb1⟩; have hb1s := hb1.size; (try simp only [World.size_alloc, World.size_setCell, World.size_drew, World.heap_drewN] at hb1s); obtain ⟨hb1c, hb1f⟩ := bcell hb1; (try have : w.heap.size < w1.heap.size := by omega); (try have : w.heap.size + 1 < w1.heap.size := by omega); (try have : w.heap.size + 1 + 1 < w1.heap.size := by omega); (try have : w.heap.size + 1 + 1 + 1 < w1.heap.size := by omega)
  have aq1 : Bk w1 (w.heap.size) 26 [.bool b, .int .u64 x1, .int .u64 x0, .int .i64 s] := by (repeat (first | (with_reducible assumption) | ((with_reducible refine Bk.new_ ?_); (first | rfl | (simp only [World.size_alloc, World.size_setCell, World.size_drew, World.heap_drewN]; done))) | (with_reducible refine Bk.alloc ?_ _) | (with_reducible refine Bk.drew ?_) | (with_reducible refine Bk.drewN ?_ _) | ((with_reducible refine Bk.far ?_ ?_ _); rotate_left; focus (simp only []; omega)) | ((with_reducible refine Bk.below ?_ (by with_reducible assumption) ?_); rotate_left; focus (go_size; done))))
  have aq1_0 := aq1.cell 0 rfl
  have aq1_1 := aq1.cell 1 rfl
  have aq1_2 := aq1.cell 2 rfl
  have aq1_3 := aq1.cell 3 rfl
  have aq1_4 := aq1.frozen 0
  have aq1_5 := aq1.frozen 1
  have aq1_6 := aq1.frozen 2
  have aq1_7 := aq1.frozen 3
  have aq1l := aq1.lt
  clear hb1c hb1f
  go_wp2_with fail
  refine calls_named (fun W => Bk W (w.heap.size) 26 [.bool b, .int .u64 x1, .int .u64 x0, .int .i64 s] ∧ Below w.heap.size w W) ⟨?h0, ?h1⟩ ?_
  case h0 => ((repeat (first | (with_reducible assumption) | ((with_reducible refine Bk.new_ ?_); (first | rfl | (simp only [World.size_alloc, World.size_setCell, World.size_drew, World.heap_drewN]; done))) | (with_reducible refine Bk.alloc ?_ _) | (with_reducible refine Bk.drew ?_) | (with_reducible refine Bk.drewN ?_ _) | ((with_reducible refine Bk.far ?_ ?_ _); rotate_left; focus (simp only []; omega)) | ((with_reducible refine Bk.below ?_ (by with_reducible assumption) ?_); rotate_left; focus (go_size; done)))); done)
  case h1 => ((repeat' (first | (with_reducible exact Below.refl _ _) | (with_reducible assumption) | (with_reducible refine Below.drew ?_) | (with_reducible refine below_drewN ?_ _) | ((with_reducible refine Below.alloc ?_ ?_ _); rotate_left; focus (go_size; done)) | ((with_reducible refine Below.setCell ?_ ?_ _); rotate_left; focus (go_size; done)) | ((with_reducible refine Below.trans ?_ (Below.mono (by with_reducible assumption) ?_)); rotate_left; focus (go_size; done)))); done)
  clear aq1_0 aq1_1 aq1_2 aq1_3 aq1_4 aq1_5 aq1_6 aq1_7
  try clear hb1 hb1s
  try clear aq1 aq1l
  try clear kal
  try clear ka
  try clear kw
  rintro W1 ⟨ka, kw⟩
  have kal := ka.lt
  refine (K1.out _).mono ?_
  rintro _ w2 ⟨rfl, hb2⟩; have hb2s := hb2.size; (try simp only [World.size_alloc, World.size_setCell, World.size_drew, World.heap_drewN] at hb2s); obtain ⟨hb2c, hb2f⟩ := bcell hb2; (try have : w.heap.size < w2.heap.size := by omega); (try have : w.heap.size + 1 < w2.heap.size := by omega); (try have : w.heap.size + 1 + 1 < w2.heap.size := by omega); (try have : w.heap.size + 1 + 1 + 1 < w2.heap.size := by omega)
  have aq2 : Bk w2 (w.heap.size) 26 [.bool b, .int .u64 x1, .int .u64 x0, .int .i64 s] := by (repeat (first | (with_reducible assumption) | ((with_reducible refine Bk.new_ ?_); (first | rfl | (simp only [World.size_alloc, World.size_setCell, World.size_drew, World.heap_drewN]; done))) | (with_reducible refine Bk.alloc ?_ _) | (with_reducible refine Bk.drew ?_) | (with_reducible refine Bk.drewN ?_ _) | ((with_reducible refine Bk.far ?_ ?_ _); rotate_left; focus (simp only []; omega)) | ((with_reducible refine Bk.below ?_ (by with_reducible assumption) ?_); rotate_left; focus (go_size; done))))
  have aq2_0 := aq2.cell 0 rfl
  have aq2_1 := aq2.cell 1 rfl
  have aq2_2 := aq2.cell 2 rfl
  have aq2_3 := aq2.cell 3 rfl
  have aq2_4 := aq2.frozen 0
  have aq2_5 := aq2.frozen 1
  have aq2_6 := aq2.frozen 2
  have aq2_7 := aq2.frozen 3
  have aq2l := aq2.lt
  clear hb2c hb2f
  go_wp2_with fail
  obtain ⟨gn, hgn⟩ : ∃ gn, gn = w2.heap.size := ⟨_, rfl⟩
  refine calls_named (fun W => Bk W (w.heap.size) 26 [.bool b, .int .u64 x1, .int .u64 x0, .int .i64 s] ∧ Bk W w2.heap.size 26 [.bool n0, .int .u64 n1, .int .u64 n2, .int .i64 n3] ∧ Below w.heap.size w W) ⟨?h0, ?h1, ?h2⟩ ?_
  case h0 => ((repeat (first | (with_reducible assumption) | ((with_reducible refine Bk.new_ ?_); (first | rfl | (simp only [World.size_alloc, World.size_setCell, World.size_drew, World.heap_drewN]; done))) | (with_reducible refine Bk.alloc ?_ _) | (with_reducible refine Bk.drew ?_) | (with_reducible refine Bk.drewN ?_ _) | ((with_reducible refine Bk.far ?_ ?_ _); rotate_left; focus (simp only []; omega)) | ((with_reducible refine Bk.below ?_ (by with_reducible assumption) ?_); rotate_left; focus (go_size; done)))); done)
  case h1 => ((repeat (first | (with_reducible assumption) | ((with_reducible refine Bk.new_ ?_); (first | rfl | (simp only [World.size_alloc, World.size_setCell, World.size_drew, World.heap_drewN]; done))) | (with_reducible refine Bk.alloc ?_ _) | (with_reducible refine Bk.drew ?_) | (with_reducible refine Bk.drewN ?_ _) | ((with_reducible refine Bk.far ?_ ?_ _); rotate_left; focus (simp only []; omega)) | ((with_reducible refine Bk.below ?_ (by with_reducible assumption) ?_); rotate_left; focus (go_size; done)))); done)
  case h2 => ((repeat' (first | (with_reducible exact Below.refl _ _) | (with_reducible assumption) | (with_reducible refine Below.drew ?_) | (with_reducible refine below_drewN ?_ _) | ((with_reducible refine Below.alloc ?_ ?_ _); rotate_left; focus (go_size; done)) | ((with_reducible refine Below.setCell ?_ ?_ _); rotate_left; focus (go_size; done)) | ((with_reducible refine Below.trans ?_ (Below.mono (by with_reducible assumption) ?_)); rotate_left; focus (go_size; done)))); done)
  clear aq2_0 aq2_1 aq2_2 aq2_3 aq2_4 aq2_5 aq2_6 aq2_7
  rw [← hgn]
  have gn_a : w.heap.size < gn := by omega
  clear hgn
  try clear hb2 hb2s
  try clear aq2 aq2l
  try clear kal
  try clear ka
  try clear kw
  rintro W2 ⟨ka, kn, kw⟩
  have kal := ka.lt
  have knl := kn.lt
  refine (K2.out _).mono ?_
  rintro _ w3 ⟨rfl, hb3⟩; have hb3s := hb3.size; (try simp only [World.size_alloc, World.size_setCell, World.size_drew, World.heap_drewN] at hb3s); obtain ⟨hb3c, hb3f⟩ := bcell hb3; (try have : w.heap.size < w3.heap.size := by omega); (try have : w.heap.size + 1 < w3.heap.size := by omega); (try have : w.heap.size + 1 + 1 < w3.heap.size := by omega); (try have : w.heap.size + 1 + 1 + 1 < w3.heap.size := by omega)
  have aq3 : Bk w3 (w.heap.size) 26 [.bool b, .int .u64 x1, .int .u64 x0, .int .i64 s] := by (repeat (first | (with_reducible assumption) | ((with_reducible refine Bk.new_ ?_); (first | rfl | (simp only [World.size_alloc, World.size_setCell, World.size_drew, World.heap_drewN]; done))) | (with_reducible refine Bk.alloc ?_ _) | (with_reducible refine Bk.drew ?_) | (with_reducible refine Bk.drewN ?_ _) | ((with_reducible refine Bk.far ?_ ?_ _); rotate_left; focus (simp only []; omega)) | ((with_reducible refine Bk.below ?_ (by with_reducible assumption) ?_); rotate_left; focus (go_size; done))))
  have aq3_0 := aq3.cell 0 rfl
  have aq3_1 := aq3.cell 1 rfl
  have aq3_2 := aq3.cell 2 rfl
  have aq3_3 := aq3.cell 3 rfl
  have aq3_4 := aq3.frozen 0
  have aq3_5 := aq3.frozen 1
  have aq3_6 := aq3.frozen 2
  have aq3_7 := aq3.frozen 3
  have aq3l := aq3.lt
  have nq3 : Bk w3 (gn) 26 [.bool n0, .int .u64 n1, .int .u64 n2, .int .i64 n3] := by (repeat (first | (with_reducible assumption) | ((with_reducible refine Bk.new_ ?_); (first | rfl | (simp only [World.size_alloc, World.size_setCell, World.size_drew, World.heap_drewN]; done))) | (with_reducible refine Bk.alloc ?_ _) | (with_reducible refine Bk.drew ?_) | (with_reducible refine Bk.drewN ?_ _) | ((with_reducible refine Bk.far ?_ ?_ _); rotate_left; focus (simp only []; omega)) | ((with_reducible refine Bk.below ?_ (by with_reducible assumption) ?_); rotate_left; focus (go_size; done))))
  have nq3_0 := nq3.cell 0 rfl
  have nq3_1 := nq3.cell 1 rfl
  have nq3_2 := nq3.cell 2 rfl
  have nq3_3 := nq3.cell 3 rfl
  have nq3_4 := nq3.frozen 0
  have nq3_5 := nq3.frozen 1
  have nq3_6 := nq3.frozen 2
  have nq3_7 := nq3.frozen 3
  have nq3l := nq3.lt
  clear hb3c hb3f
  go_wp2_with fail
  obtain ⟨go, hgo⟩ : ∃ go, go = w3.heap.size := ⟨_, rfl⟩
  refine calls_named (fun W => Bk W (w.heap.size) 26 [.bool b, .int .u64 x1, .int .u64 x0, .int .i64 s] ∧ Bk W (gn) 26 [.bool n0, .int .u64 n1, .int .u64 n2, .int .i64 n3] ∧ Bk W w3.heap.size 26 [.bool n0, .int .u64 n1, .int .u64 n2, .int .i64 n3] ∧ Below w.heap.size w W) ⟨?h0, ?h1, ?h2, ?h3⟩ ?_
  case h0 => ((repeat (first | (with_reducible assumption) | ((with_reducible refine Bk.new_ ?_); (first | rfl | (simp only [World.size_alloc, World.size_setCell, World.size_drew, World.heap_drewN]; done))) | (with_reducible refine Bk.alloc ?_ _) | (with_reducible refine Bk.drew ?_) | (with_reducible refine Bk.drewN ?_ _) | ((with_reducible refine Bk.far ?_ ?_ _); rotate_left; focus (simp only []; omega)) | ((with_reducible refine Bk.below ?_ (by with_reducible assumption) ?_); rotate_left; focus (go_size; done)))); done)
  case h1 => ((repeat (first | (with_reducible assumption) | ((with_reducible refine Bk.new_ ?_); (first | rfl | (simp only [World.size_alloc, World.size_setCell, World.size_drew, World.heap_drewN]; done))) | (with_reducible refine Bk.alloc ?_ _) | (with_reducible refine Bk.drew ?_) | (with_reducible refine Bk.drewN ?_ _) | ((with_reducible refine Bk.far ?_ ?_ _); rotate_left; focus (simp only []; omega)) | ((with_reducible refine Bk.below ?_ (by with_reducible assumption) ?_); rotate_left; focus (go_size; done)))); done)
  case h2 => ((repeat (first | (with_reducible assumption) | ((with_reducible refine Bk.new_ ?_); (first | rfl | (simp only [World.size_alloc, World.size_setCell, World.size_drew, World.heap_drewN]; done))) | (with_reducible refine Bk.alloc ?_ _) | (with_reducible refine Bk.drew ?_) | (with_reducible refine Bk.drewN ?_ _) | ((with_reducible refine Bk.far ?_ ?_ _); rotate_left; focus (simp only []; omega)) | ((with_reducible refine Bk.below ?_ (by with_reducible assumption) ?_); rotate_left; focus (go_size; done)))); done)
  case h3 => ((repeat' (first | (with_reducible exact Below.refl _ _) | (with_reducible assumption) | (with_reducible refine Below.drew ?_) | (with_reducible refine below_drewN ?_ _) | ((with_reducible refine Below.alloc ?_ ?_ _); rotate_left; focus (go_size; done)) | ((with_reducible refine Below.setCell ?_ ?_ _); rotate_left; focus (go_size; done)) | ((with_reducible refine Below.trans ?_ (Below.mono (by with_reducible assumption) ?_)); rotate_left; focus (go_size; done)))); done)
  clear aq3_0 aq3_1 aq3_2 aq3_3 aq3_4 aq3_5 aq3_6 aq3_7
  clear nq3_0 nq3_1 nq3_2 nq3_3 nq3_4 nq3_5 nq3_6 nq3_7
  rw [← hgo]
  have go_a : w.heap.size < go := by omega
  have go_n : gn < go := by omega
  clear hgo
  try clear hb3 hb3s
  try clear aq3 aq3l
  try clear nq3 nq3l
  try clear kal
  try clear knl
  try clear ka
  try clear kn
  try clear kw
  rintro W3 ⟨ka, kn, ko, kw⟩
  have kal := ka.lt
  have knl := kn.lt
  have kol := ko.lt
  refine (K3.out _).mono ?_
  rintro _ w4 ⟨rfl, hb4⟩; have hb4s := hb4.size; (try simp only [World.size_alloc, World.size_setCell, World.size_drew, World.heap_drewN] at hb4s); obtain ⟨hb4c, hb4f⟩ := bcell hb4; (try have : w.heap.size < w4.heap.size := by omega); (try have : w.heap.size + 1 < w4.heap.size := by omega); (try have : w.heap.size + 1 + 1 < w4.heap.size := by omega); (try have : w.heap.size + 1 + 1 + 1 < w4.heap.size := by omega)
  have aq4 : Bk w4 (w.heap.size) 26 [.bool b, .int .u64 x1, .int .u64 x0, .int .i64 s] := by (repeat (first | (with_reducible assumption) | ((with_reducible refine Bk.new_ ?_); (first | rfl | (simp only [World.size_alloc, World.size_setCell, World.size_drew, World.heap_drewN]; done))) | (with_reducible refine Bk.alloc ?_ _) | (with_reducible refine Bk.drew ?_) | (with_reducible refine Bk.drewN ?_ _) | ((with_reducible refine Bk.far ?_ ?_ _); rotate_left; focus (simp only []; omega)) | ((with_reducible refine Bk.below ?_ (by with_reducible assumption) ?_); rotate_left; focus (go_size; done))))
  have aq4_0 := aq4.cell 0 rfl
  have aq4_1 := aq4.cell 1 rfl
  have aq4_2 := aq4.cell 2 rfl
  have aq4_3 := aq4.cell 3 rfl
  have aq4_4 := aq4.frozen 0
  have aq4_5 := aq4.frozen 1
  have aq4_6 := aq4.frozen 2
  have aq4_7 := aq4.frozen 3
  have aq4l := aq4.lt
  have nq4 : Bk w4 (gn) 26 [.bool n0, .int .u64 n1, .int .u64 n2, .int .i64 n3] := by (repeat (first | (with_reducible assumption) | ((with_reducible refine Bk.new_ ?_); (first | rfl | (simp only [World.size_alloc, World.size_setCell, World.size_drew, World.heap_drewN]; done))) | (with_reducible refine Bk.alloc ?_ _) | (with_reducible refine Bk.drew ?_) | (with_reducible refine Bk.drewN ?_ _) | ((with_reducible refine Bk.far ?_ ?_ _); rotate_left; focus (simp only []; omega)) | ((with_reducible refine Bk.below ?_ (by with_reducible assumption) ?_); rotate_left; focus (go_size; done))))
  have nq4_0 := nq4.cell 0 rfl
  have nq4_1 := nq4.cell 1 rfl
  have nq4_2 := nq4.cell 2 rfl
  have nq4_3 := nq4.cell 3 rfl
  have nq4_4 := nq4.frozen 0
  have nq4_5 := nq4.frozen 1
  have nq4_6 := nq4.frozen 2
  have nq4_7 := nq4.frozen 3
  have nq4l := nq4.lt
  have oq4 : Bk w4 (go) 26 [.bool n0, .int .u64 n1, .int .u64 n2, .int .i64 n3] := by (repeat (first | (with_reducible assumption) | ((with_reducible refine Bk.new_ ?_); (first | rfl | (simp only [World.size_alloc, World.size_setCell, World.size_drew, World.heap_drewN]; done))) | (with_reducible refine Bk.alloc ?_ _) | (with_reducible refine Bk.drew ?_) | (with_reducible refine Bk.drewN ?_ _) | ((with_reducible refine Bk.far ?_ ?_ _); rotate_left; focus (simp only []; omega)) | ((with_reducible refine Bk.below ?_ (by with_reducible assumption) ?_); rotate_left; focus (go_size; done))))
  have oq4_0 := oq4.cell 0 rfl
  have oq4_1 := oq4.cell 1 rfl
  have oq4_2 := oq4.cell 2 rfl
  have oq4_3 := oq4.cell 3 rfl
  have oq4_4 := oq4.frozen 0
  have oq4_5 := oq4.frozen 1
  have oq4_6 := oq4.frozen 2
  have oq4_7 := oq4.frozen 3
  have oq4l := oq4.lt
  clear hb4c hb4f
  go_wp2_with fail
  obtain ⟨gp, hgp⟩ : ∃ gp, gp = w4.heap.size := ⟨_, rfl⟩
  refine calls_named (fun W => Bk W (w.heap.size) 26 [.bool b, .int .u64 x1, .int .u64 x0, .int .i64 s] ∧ Bk W (gn) 26 [.bool n0, .int .u64 n1, .int .u64 n2, .int .i64 n3] ∧ Bk W (go) 26 [.bool n0, .int .u64 n1, .int .u64 n2, .int .i64 n3] ∧ Bk W w4.heap.size 26 [.bool m0, .int .u64 m1, .int .u64 m2, .int .i64 m3] ∧ Below w.heap.size w W) ⟨?h0, ?h1, ?h2, ?h3, ?h4⟩ ?_
  case h0 => ((repeat (first | (with_reducible assumption) | ((with_reducible refine Bk.new_ ?_); (first | rfl | (simp only [World.size_alloc, World.size_setCell, World.size_drew, World.heap_drewN]; done))) | (with_reducible refine Bk.alloc ?_ _) | (with_reducible refine Bk.drew ?_) | (with_reducible refine Bk.drewN ?_ _) | ((with_reducible refine Bk.far ?_ ?_ _); rotate_left; focus (simp only []; omega)) | ((with_reducible refine Bk.below ?_ (by with_reducible assumption) ?_); rotate_left; focus (go_size; done)))); done)
  case h1 => ((repeat (first | (with_reducible assumption) | ((with_reducible refine Bk.new_ ?_); (first | rfl | (simp only [World.size_alloc, World.size_setCell, World.size_drew, World.heap_drewN]; done))) | (with_reducible refine Bk.alloc ?_ _) | (with_reducible refine Bk.drew ?_) | (with_reducible refine Bk.drewN ?_ _) | ((with_reducible refine Bk.far ?_ ?_ _); rotate_left; focus (simp only []; omega)) | ((with_reducible refine Bk.below ?_ (by with_reducible assumption) ?_); rotate_left; focus (go_size; done)))); done)
  case h2 => ((repeat (first | (with_reducible assumption) | ((with_reducible refine Bk.new_ ?_); (first | rfl | (simp only [World.size_alloc, World.size_setCell, World.size_drew, World.heap_drewN]; done))) | (with_reducible refine Bk.alloc ?_ _) | (with_reducible refine Bk.drew ?_) | (with_reducible refine Bk.drewN ?_ _) | ((with_reducible refine Bk.far ?_ ?_ _); rotate_left; focus (simp only []; omega)) | ((with_reducible refine Bk.below ?_ (by with_reducible assumption) ?_); rotate_left; focus (go_size; done)))); done)
  case h3 => ((repeat (first | (with_reducible assumption) | ((with_reducible refine Bk.new_ ?_); (first | rfl | (simp only [World.size_alloc, World.size_setCell, World.size_drew, World.heap_drewN]; done))) | (with_reducible refine Bk.alloc ?_ _) | (with_reducible refine Bk.drew ?_) | (with_reducible refine Bk.drewN ?_ _) | ((with_reducible refine Bk.far ?_ ?_ _); rotate_left; focus (simp only []; omega)) | ((with_reducible refine Bk.below ?_ (by with_reducible assumption) ?_); rotate_left; focus (go_size; done)))); done)
  case h4 => ((repeat' (first | (with_reducible exact Below.refl _ _) | (with_reducible assumption) | (with_reducible refine Below.drew ?_) | (with_reducible refine below_drewN ?_ _) | ((with_reducible refine Below.alloc ?_ ?_ _); rotate_left; focus (go_size; done)) | ((with_reducible refine Below.setCell ?_ ?_ _); rotate_left; focus (go_size; done)) | ((with_reducible refine Below.trans ?_ (Below.mono (by with_reducible assumption) ?_)); rotate_left; focus (go_size; done)))); done)
  clear aq4_0 aq4_1 aq4_2 aq4_3 aq4_4 aq4_5 aq4_6 aq4_7
  clear nq4_0 nq4_1 nq4_2 nq4_3 nq4_4 nq4_5 nq4_6 nq4_7
  clear oq4_0 oq4_1 oq4_2 oq4_3 oq4_4 oq4_5 oq4_6 oq4_7
  rw [← hgp]
  have gp_a : w.heap.size < gp := by omega
  have gp_n : gn < gp := by omega
  have gp_o : go < gp := by omega
  clear hgp
  try clear hb4 hb4s
  try clear aq4 aq4l
  try clear nq4 nq4l
  try clear oq4 oq4l
  try clear kal
  try clear knl
  try clear kol
  try clear ka
  try clear kn
  try clear ko
  try clear kw
  rintro W4 ⟨ka, kn, ko, kp, kw⟩
  have kal := ka.lt
  have knl := kn.lt
  have kol := ko.lt
  have kpl := kp.lt
  refine (K4.out _).mono ?_
  rintro _ w5 ⟨rfl, hb5⟩; have hb5s := hb5.size; (try simp only [World.size_alloc, World.size_setCell, World.size_drew, World.heap_drewN] at hb5s); obtain ⟨hb5c, hb5f⟩ := bcell hb5; (try have : w.heap.size < w5.heap.size := by omega); (try have : w.heap.size + 1 < w5.heap.size := by omega); (try have : w.heap.size + 1 + 1 < w5.heap.size := by omega); (try have : w.heap.size + 1 + 1 + 1 < w5.heap.size := by omega)
  have aq5 : Bk w5 (w.heap.size) 26 [.bool b, .int .u64 x1, .int .u64 x0, .int .i64 s] := by (repeat (first | (with_reducible assumption) | ((with_reducible refine Bk.new_ ?_); (first | rfl | (simp only [World.size_alloc, World.size_setCell, World.size_drew, World.heap_drewN]; done))) | (with_reducible refine Bk.alloc ?_ _) | (with_reducible refine Bk.drew ?_) | (with_reducible refine Bk.drewN ?_ _) | ((with_reducible refine Bk.far ?_ ?_ _); rotate_left; focus (simp only []; omega)) | ((with_reducible refine Bk.below ?_ (by with_reducible assumption) ?_); rotate_left; focus (go_size; done))))
  have aq5_0 := aq5.cell 0 rfl
  have aq5_1 := aq5.cell 1 rfl
  have aq5_2 := aq5.cell 2 rfl
  have aq5_3 := aq5.cell 3 rfl
  have aq5_4 := aq5.frozen 0
  have aq5_5 := aq5.frozen 1
  have aq5_6 := aq5.frozen 2
  have aq5_7 := aq5.frozen 3
  have aq5l := aq5.lt
  have nq5 : Bk w5 (gn) 26 [.bool n0, .int .u64 n1, .int .u64 n2, .int .i64 n3] := by (repeat (first | (with_reducible assumption) | ((with_reducible refine Bk.new_ ?_); (first | rfl | (simp only [World.size_alloc, World.size_setCell, World.size_drew, World.heap_drewN]; done))) | (with_reducible refine Bk.alloc ?_ _) | (with_reducible refine Bk.drew ?_) | (with_reducible refine Bk.drewN ?_ _) | ((with_reducible refine Bk.far ?_ ?_ _); rotate_left; focus (simp only []; omega)) | ((with_reducible refine Bk.below ?_ (by with_reducible assumption) ?_); rotate_left; focus (go_size; done))))
  have nq5_0 := nq5.cell 0 rfl
  have nq5_1 := nq5.cell 1 rfl
  have nq5_2 := nq5.cell 2 rfl
  have nq5_3 := nq5.cell 3 rfl
  have nq5_4 := nq5.frozen 0
  have nq5_5 := nq5.frozen 1
  have nq5_6 := nq5.frozen 2
  have nq5_7 := nq5.frozen 3
  have nq5l := nq5.lt
  have oq5 : Bk w5 (go) 26 [.bool n0, .int .u64 n1, .int .u64 n2, .int .i64 n3] := by (repeat (first | (with_reducible assumption) | ((with_reducible refine Bk.new_ ?_); (first | rfl | (simp only [World.size_alloc, World.size_setCell, World.size_drew, World.heap_drewN]; done))) | (with_reducible refine Bk.alloc ?_ _) | (with_reducible refine Bk.drew ?_) | (with_reducible refine Bk.drewN ?_ _) | ((with_reducible refine Bk.far ?_ ?_ _); rotate_left; focus (simp only []; omega)) | ((with_reducible refine Bk.below ?_ (by with_reducible assumption) ?_); rotate_left; focus (go_size; done))))
  have oq5_0 := oq5.cell 0 rfl
  have oq5_1 := oq5.cell 1 rfl
  have oq5_2 := oq5.cell 2 rfl
  have oq5_3 := oq5.cell 3 rfl
  have oq5_4 := oq5.frozen 0
  have oq5_5 := oq5.frozen 1
  have oq5_6 := oq5.frozen 2
  have oq5_7 := oq5.frozen 3
  have oq5l := oq5.lt
  have pq5 : Bk w5 (gp) 26 [.bool m0, .int .u64 m1, .int .u64 m2, .int .i64 m3] := by (repeat (first | (with_reducible assumption) | ((with_reducible refine Bk.new_ ?_); (first | rfl | (simp only [World.size_alloc, World.size_setCell, World.size_drew, World.heap_drewN]; done))) | (with_reducible refine Bk.alloc ?_ _) | (with_reducible refine Bk.drew ?_) | (with_reducible refine Bk.drewN ?_ _) | ((with_reducible refine Bk.far ?_ ?_ _); rotate_left; focus (simp only []; omega)) | ((with_reducible refine Bk.below ?_ (by with_reducible assumption) ?_); rotate_left; focus (go_size; done))))
  have pq5_0 := pq5.cell 0 rfl
  have pq5_1 := pq5.cell 1 rfl
  have pq5_2 := pq5.cell 2 rfl
  have pq5_3 := pq5.cell 3 rfl
  have pq5_4 := pq5.frozen 0
  have pq5_5 := pq5.frozen 1
  have pq5_6 := pq5.frozen 2
  have pq5_7 := pq5.frozen 3
  have pq5l := pq5.lt
  clear hb5c hb5f
  go_wp2_with fail
  go_ret
  exact ⟨rfl, by (repeat' (first | (with_reducible exact Below.refl _ _) | (with_reducible assumption) | (with_reducible refine Below.drew ?_) | (with_reducible refine below_drewN ?_ _) | ((with_reducible refine Below.alloc ?_ ?_ _); rotate_left; focus (go_size; done)) | ((with_reducible refine Below.setCell ?_ ?_ _); rotate_left; focus (go_size; done)) | ((with_reducible refine Below.trans ?_ (Below.mono (by with_reducible assumption) ?_)); rotate_left; focus (go_size; done))))⟩
end Go.Proofs.Ythkgjodidkpaeaa
