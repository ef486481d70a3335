/- The program: a fraction of a power of ten fitted into a decimal. -/
import Derived.Test.YthkgjodidkpaeaaFc
import Derived.Test.YthkgjodidkpaeaaFd
import Derived.Test.YthkgjodidkpaeaaWr
import Derived.Test.YthkgjodidkpaeaaFw
import Derived.IntWalk
set_option linter.unusedSimpArgs false
set_option linter.unusedVariables false
namespace Go.Proofs.Ythkgjodidkpaeaa
open Go.RowKit

theorem fit_step_yes {n t j : Nat} (hj : j ≤ t) (h : near n (10 ^ (t - j)) < B34) (e : fin (fitK n (10 ^ t) (K19 n)) = fin (fitK n (10 ^ t) (j + 1))) :
    FitC n (10 ^ t) = stripC (near n (10 ^ (t - j))) j ∧ FitS n (10 ^ t) = stripS (near n (10 ^ (t - j))) j ∧ FitE n (10 ^ t) = 0 := by
  have hp := near_pow n j t hj
  unfold FitC FitS FitE
  rw [e, fitK_yes (by rw [hp]; exact h), hp]
  exact ⟨rfl, rfl, rfl⟩
theorem fit_step_no {n t j : Nat} (hj : j ≤ t) (h : ¬ near n (10 ^ (t - j)) < B34) (e : fin (fitK n (10 ^ t) (K19 n)) = fin (fitK n (10 ^ t) (j + 1))) :
    fin (fitK n (10 ^ t) (K19 n)) = fin (fitK n (10 ^ t) j) := by
  have hp := near_pow n j t hj
  rw [e, fitK_no (by rw [hp]; exact h)]
theorem fit_step_end {n t : Nat} (e : fin (fitK n (10 ^ t) (K19 n)) = fin (fitK n (10 ^ t) 0)) : FitC n (10 ^ t) = 0 ∧ FitS n (10 ^ t) = 0 ∧ FitE n (10 ^ t) = 3 := by
  unfold FitC FitS FitE
  rw [e]
  exact ⟨rfl, rfl, rfl⟩
theorem fit_begin (n t : Nat) : ∃ k, k ≤ 19 ∧ k = min 18 t + 1 ∧ k ≤ t + 1 ∧ fin (fitK n (10 ^ t) (K19 n)) = fin (fitK n (10 ^ t) k) := by
  refine ⟨min 18 t + 1, by omega, rfl, by omega, ?_⟩
  by_cases h : t ≤ 18
  · rw [show min 18 t = t by omega]; exact fit_top n t h
  · rw [show min 18 t + 1 = K19 n by rw [K19_eq]; omega]
set_option maxHeartbeats 4000000 in
theorem fit_any (neg : Bool) (n t : Nat) (hn : n < 2 ^ 256) (ht : t ≤ 76) (w : World) : Calls Try.prog 51 #[.bool neg, .agg #[.int .u64 (wd n 0), .int .u64 (wd n 1), .int .u64 (wd n 2), .int .u64 (wd n 3)], .int .i64 t] w fun e w' => e = .returned (.tuple #[.agg #[.bool (sg neg (FitC (n) (10 ^ t))), .int .u64 (wd (FitC (n) (10 ^ t)) 1), .int .u64 (wd (FitC (n) (10 ^ t)) 0), .int .i64 (FitS (n) (10 ^ t))], .int .i64 (FitE n (10 ^ t))]) ∧ Below w.heap.size w w' := by
  obtain ⟨k, k19, hk, kt, he⟩ := fit_begin n t
  have HE := Far.mk he
  have HN := Far.mk hn
  have HBD := Lib.hid (fun W => bound_any W)
  obtain ⟨p0, hp0⟩ : ∃ p0, p0 = wd B34 0 := ⟨_, rfl⟩
  obtain ⟨p1, hp1⟩ : ∃ p1, p1 = wd B34 1 := ⟨_, rfl⟩
  rw [← hp0, ← hp1] at HBD
  have HPW : Hid (p0 = wd B34 0 ∧ p1 = wd B34 1) := Lib.hid ⟨hp0, hp1⟩
  clear hp0 hp1
  obtain ⟨C, hC⟩ : ∃ C, C = FitC n (10 ^ t) := ⟨_, rfl⟩
  obtain ⟨S, hS⟩ : ∃ S, S = FitS n (10 ^ t) := ⟨_, rfl⟩
  obtain ⟨E, hE⟩ : ∃ E, E = FitE n (10 ^ t) := ⟨_, rfl⟩
  rw [← hC, ← hS, ← hE]
  have EC := Far.mk hC
  have ES := Far.mk hS
  have EE := Far.mk hE
  clear hC hS hE he hn
  have t0 : (0 : Int) ≤ (t : Int) := by omega
  have t76 : (t : Int) ≤ 76 := by omega
  by_cases h18 : t ≤ 18
  · have g1 : (t : Int) ≤ 18 := by omega
    have hk2 : (t : Int) = (k : Int) - 1 := by omega
    have HK2 := Lib.hid hk2
    clear hk hk2
    go_enter Try.func51, Try.ntmps51
    go_wp2_with fail
    go_loopg [8] k (fun kk sv wr => kk ≤ t + 1 ∧ kk ≤ 19 ∧ sv = .int .i64 ((kk : Int) - 1) ∧ Far (fin (fitK n (10 ^ t) (K19 n)) = fin (fitK n (10 ^ t) kk)) ∧ Bk wr w.heap.size 45 (lcells n) ∧ Bk wr (w.heap.size + 1) 26 [.bool false, .int .u64 0, .int .u64 0, .int .i64 0] ∧ Below w.heap.size w wr)
    case atStart => exact ⟨kt, k19, congrArg (Value.int .i64) (by have := HK2.out; omega), HE, by rw [lcells_eq]; (repeat (first | (with_reducible assumption) | ((with_reducible refine Bk.new_ ?_); (first | rfl | (simp only [World.size_alloc, World.size_setCell, World.size_drew, World.heap_drewN]; done))) | (with_reducible refine Bk.alloc ?_ _) | (with_reducible refine Bk.drew ?_) | (with_reducible refine Bk.drewN ?_ _) | ((with_reducible refine Bk.far ?_ ?_ _); rotate_left; focus (simp only []; omega)) | ((with_reducible refine Bk.below ?_ (by with_reducible assumption) ?_); rotate_left; focus (go_size; done)))), by (repeat (first | (with_reducible assumption) | ((with_reducible refine Bk.new_ ?_); (first | rfl | (simp only [World.size_alloc, World.size_setCell, World.size_drew, World.heap_drewN]; done))) | (with_reducible refine Bk.alloc ?_ _) | (with_reducible refine Bk.drew ?_) | (with_reducible refine Bk.drewN ?_ _) | ((with_reducible refine Bk.far ?_ ?_ _); rotate_left; focus (simp only []; omega)) | ((with_reducible refine Bk.below ?_ (by with_reducible assumption) ?_); rotate_left; focus (go_size; done)))), by (repeat' (first | (with_reducible exact Below.refl _ _) | (with_reducible assumption) | (with_reducible refine Below.drew ?_) | (with_reducible refine below_drewN ?_ _) | ((with_reducible refine Below.alloc ?_ ?_ _); rotate_left; focus (go_size; done)) | ((with_reducible refine Below.setCell ?_ ?_ _); rotate_left; focus (go_size; done)) | ((with_reducible refine Below.trans ?_ (Below.mono (by with_reducible assumption) ?_)); rotate_left; focus (go_size; done))))⟩
    case round =>
      obtain ⟨hkt, hk19, rfl, he, b0, b1, hbel⟩ := hrel
      have HB0 := Lib.hid b0
      have HB1 := Lib.hid b1
      have hbs := hbel.size
      have l0 := b0.lt
      have l1 := b1.lt
      rw [lcells_eq] at b0
      have d0 := b0.cell 0 rfl
      have d1 := b0.cell 1 rfl
      have d2 := b0.cell 2 rfl
      have d3 := b0.cell 3 rfl
      clear b0
      by_cases hz : gk = 0
      · subst hz
        have h0 : ¬ (0 : Int) ≤ ((0 : Nat) : Int) - 1 := by omega
        have c0 := b1.cell 0 rfl
        have c1 := b1.cell 1 rfl
        have c2 := b1.cell 2 rfl
        have c3 := b1.cell 3 rfl
        have f0 := b1.frozen 0
        have f1 := b1.frozen 1
        have f2 := b1.frozen 2
        have f3 := b1.frozen 3
        clear b1
        go_wp2_with fail
        refine bodyPost_ret (by simp [results, Try.results51, go_sem, *]; try rfl) rfl ?_
        obtain ⟨e1, e2, e3⟩ := fit_step_end he.out
        exact ⟨by rw [EC.out, ES.out, EE.out, e1, e2, e3, wd_zero, wd_zero, sg_zero]; rfl, by (repeat' (first | (with_reducible exact Below.refl _ _) | (with_reducible assumption) | (with_reducible refine Below.drew ?_) | (with_reducible refine below_drewN ?_ _) | ((with_reducible refine Below.alloc ?_ ?_ _); rotate_left; focus (go_size; done)) | ((with_reducible refine Below.setCell ?_ ?_ _); rotate_left; focus (go_size; done)) | ((with_reducible refine Below.trans ?_ (Below.mono (by with_reducible assumption) ?_)); rotate_left; focus (go_size; done))))⟩
      · obtain ⟨j, rfl⟩ : ∃ j, gk = j + 1 := ⟨gk - 1, by omega⟩
        have hx : ((j + 1 : Nat) : Int) - 1 = (j : Int) := by omega
        rw [hx]
        have hjt : j ≤ t := by omega
        have j0 : (0 : Int) ≤ (j : Int) := by omega
        have j18 : (j : Int) ≤ 18 := by omega
        have gs : IntKind.i64.wrap ((t : Int) - (j : Int)) = (t : Int) - (j : Int) := IntWalk.i64_in _ (by omega)
        have HR : Hid (∀ W, Calls Try.prog 74 #[.agg #[.int .u64 (wd n 0), .int .u64 (wd n 1), .int .u64 (wd n 2), .int .u64 (wd n 3)], .int .i64 ((t : Int) - (j : Int))] W fun e w' => e = .returned (.tuple #[.agg #[.int .u64 (wd (fitW (near n (10 ^ (t - j)))) 1), .int .u64 (wd (fitW (near n (10 ^ (t - j)))) 0)], .int .i64 (over (near n (10 ^ (t - j))))]) ∧ Below W.heap.size W w') := Lib.hid (fun W => by
          rw [show (t : Int) - (j : Int) = ((t - j : Nat) : Int) by omega]
          exact round_any n HN.out (t - j) (by omega) W)
        have hyes := fit_step_yes (n := n) (t := t) (j := j) hjt
        have hno := fit_step_no (n := n) (t := t) (j := j) hjt
        have HYES := Far.mk hyes
        have HNO := Far.mk hno
        generalize near n (10 ^ (t - j)) = q at *
        clear hx hyes hno b1
        by_cases hq : q < B34
        · have hq2 : q < 2 ^ 128 := Nat.lt_trans hq B34_lt
          obtain ⟨e1, e2, e3⟩ := HYES.out hq he.out
          have HCM := Lib.hid (fun W => cmp_any q B34 hq2 B34_lt W)
          have hcc := cmp_bound hq
          have HCN := Lib.hid (fun W => canon_any neg q j hq (by omega) W)
          rw [fit_id hq2, over_id hq2] at HR
          rw [← e1, ← e2, ← EC.out, ← ES.out] at HCN
          have E3 := Far.mk e3
          have HP0 := HPW
          obtain ⟨hp0, hp1⟩ := HP0.out
          rw [← hp0, ← hp1] at HCM
          generalize cmpN q B34 = cc at *
          generalize wd q 0 = q0 at *
          generalize wd q 1 = q1 at *
          clear hq hq2 e1 e2 e3 HYES HNO he hp0 hp1
          go_wp2_with ((go_at_call 74; with_reducible refine (HR.out _).mono ?_); rintro _ w1 ⟨rfl, hb1⟩; have hb1s := hb1.size; (try simp only [World.size_alloc, World.size_setCell, World.size_drew, World.heap_drewN] at hb1s); obtain ⟨hb1c, hb1f⟩ := bcell hb1; (try have : w.heap.size < w1.heap.size := by omega); (try have : w.heap.size + 1 < w1.heap.size := by omega); (try have : w.heap.size + 1 + 1 < w1.heap.size := by omega); (try have : w.heap.size + 1 + 1 + 1 < w1.heap.size := by omega))
          go_region_held3 (fun w' => w'.cell? ⟨w1.heap.size, 0, none⟩ = some (.int .u64 q1) ∧ w'.cell? ⟨w1.heap.size, 1, none⟩ = some (.int .u64 q0)) (first | (first | (go_keep; done) | (simp [go_sem]; done) | ((try dsimp only); (repeat' apply And.intro) <;> (first | (with_reducible assumption) | ((rw [World.cell?_alloc_lt _ _ _ (by show _ < _; omega)]); go_split_ands; (first | with_reducible assumption | (refine (World.cell?_alloc_lt _ _ _ (by show _ < _; omega)).symm.trans ?_; with_reducible assumption))) | ((rw [World.cell?_setCell_other _ _ _ _ (by intro e; injection e; omega)]); with_reducible assumption) | (go_keep; done) | (simp [go_sem]; done) | (simp (disch := go_size) [*, World.cell?_alloc_some, World.cell?_setCell_far]; done)))) | ((refine ⟨Bk.cell (t := 24) (cs := [.int .u64 q1, .int .u64 q0]) ?_ 0 rfl, Bk.cell (t := 24) (cs := [.int .u64 q1, .int .u64 q0]) ?_ 1 rfl⟩) <;> ((repeat (first | (with_reducible assumption) | ((with_reducible refine Bk.new_ ?_); (first | rfl | (simp only [World.size_alloc, World.size_setCell, World.size_drew, World.heap_drewN]; done))) | (with_reducible refine Bk.alloc ?_ _) | (with_reducible refine Bk.drew ?_) | (with_reducible refine Bk.drewN ?_ _) | ((with_reducible refine Bk.far ?_ ?_ _); rotate_left; focus (simp only []; omega)) | ((with_reducible refine Bk.below ?_ (by with_reducible assumption) ?_); rotate_left; focus (go_size; done)))); done))) (first | ((go_at_call 55; with_reducible refine (HBD.out _).mono ?_); rintro _ w2 ⟨rfl, hb2⟩; have hb2s := hb2.size; (try simp only [World.size_alloc, World.size_setCell, World.size_drew, World.heap_drewN] at hb2s); obtain ⟨hb2c, hb2f⟩ := bcell hb2; (try have : w.heap.size < w2.heap.size := by omega); (try have : w.heap.size + 1 < w2.heap.size := by omega); (try have : w.heap.size + 1 + 1 < w2.heap.size := by omega); (try have : w.heap.size + 1 + 1 + 1 < w2.heap.size := by omega); (try have : w1.heap.size < w2.heap.size := by omega); (try have : w1.heap.size + 1 < w2.heap.size := by omega); (try have : w1.heap.size + 1 + 1 < w2.heap.size := by omega); (try have : w1.heap.size + 1 + 1 + 1 < w2.heap.size := by omega)) | ((go_at_call 54; with_reducible refine (HCM.out _).mono ?_); rintro _ w3 ⟨rfl, hb3⟩; have hb3s := hb3.size; (try simp only [World.size_alloc, World.size_setCell, World.size_drew, World.heap_drewN] at hb3s); obtain ⟨hb3c, hb3f⟩ := bcell hb3; (try have : w.heap.size < w3.heap.size := by omega); (try have : w.heap.size + 1 < w3.heap.size := by omega); (try have : w.heap.size + 1 + 1 < w3.heap.size := by omega); (try have : w.heap.size + 1 + 1 + 1 < w3.heap.size := by omega); (try have : w1.heap.size < w3.heap.size := by omega); (try have : w1.heap.size + 1 < w3.heap.size := by omega); (try have : w1.heap.size + 1 + 1 < w3.heap.size := by omega); (try have : w1.heap.size + 1 + 1 + 1 < w3.heap.size := by omega); (try have : w2.heap.size < w3.heap.size := by omega); (try have : w2.heap.size + 1 < w3.heap.size := by omega); (try have : w2.heap.size + 1 + 1 < w3.heap.size := by omega); (try have : w2.heap.size + 1 + 1 + 1 < w3.heap.size := by omega)))
          all_goals
            refine wp_named (fun W => Bk W w1.heap.size 24 [.int .u64 q1, .int .u64 q0] ∧ Bk W (w.heap.size + 1) 26 [.bool false, .int .u64 0, .int .u64 0, .int .i64 0] ∧ Below w.heap.size w W) ⟨?h1, ?h2, ?h3⟩ ?_
            case h1 => ((repeat (first | (with_reducible assumption) | ((with_reducible refine Bk.new_ ?_); (first | rfl | (simp only [World.size_alloc, World.size_setCell, World.size_drew, World.heap_drewN]; done))) | (with_reducible refine Bk.alloc ?_ _) | (with_reducible refine Bk.drew ?_) | (with_reducible refine Bk.drewN ?_ _) | ((with_reducible refine Bk.far ?_ ?_ _); rotate_left; focus (simp only []; omega)) | ((with_reducible refine Bk.below ?_ (by with_reducible assumption) ?_); rotate_left; focus (go_size; done)))); done)
            case h2 =>
              have b1 := HB1.out
              ((repeat (first | (with_reducible assumption) | ((with_reducible refine Bk.new_ ?_); (first | rfl | (simp only [World.size_alloc, World.size_setCell, World.size_drew, World.heap_drewN]; done))) | (with_reducible refine Bk.alloc ?_ _) | (with_reducible refine Bk.drew ?_) | (with_reducible refine Bk.drewN ?_ _) | ((with_reducible refine Bk.far ?_ ?_ _); rotate_left; focus (simp only []; omega)) | ((with_reducible refine Bk.below ?_ (by with_reducible assumption) ?_); rotate_left; focus (go_size; done)))); done)
            case h3 => ((repeat' (first | (with_reducible exact Below.refl _ _) | (with_reducible assumption) | (with_reducible refine Below.drew ?_) | (with_reducible refine below_drewN ?_ _) | ((with_reducible refine Below.alloc ?_ ?_ _); rotate_left; focus (go_size; done)) | ((with_reducible refine Below.setCell ?_ ?_ _); rotate_left; focus (go_size; done)) | ((with_reducible refine Below.trans ?_ (Below.mono (by with_reducible assumption) ?_)); rotate_left; focus (go_size; done)))); done)
            rintro W ⟨k1, k2, mb⟩
            have kl1 := k1.lt
            have kl2 := k2.lt
            have c10 := k1.cell 0 rfl
            have c11 := k1.cell 1 rfl
            have c20 := k2.cell 0 rfl
            have c21 := k2.cell 1 rfl
            have c22 := k2.cell 2 rfl
            have c23 := k2.cell 3 rfl
            have f20 := k2.frozen 0
            have f21 := k2.frozen 1
            have f22 := k2.frozen 2
            have f23 := k2.frozen 3
            clear hb1 hb2 hb3 hb1c hb2c hb3c hb1f hb2f hb3f d0 d1 d2 d3
            go_wp2_with ((go_at_call 75; with_reducible refine (HCN.out _).mono ?_); rintro _ w4 ⟨rfl, hb4⟩; have hb4s := hb4.size; (try simp only [World.size_alloc, World.size_setCell, World.size_drew, World.heap_drewN] at hb4s); obtain ⟨hb4c, hb4f⟩ := bcell hb4; (try have : w.heap.size < w4.heap.size := by omega); (try have : w.heap.size + 1 < w4.heap.size := by omega); (try have : w.heap.size + 1 + 1 < w4.heap.size := by omega); (try have : w.heap.size + 1 + 1 + 1 < w4.heap.size := by omega))
            refine bodyPost_ret (by simp [results, Try.results51, go_sem, *]; try rfl) rfl ?_
            exact ⟨by rw [EE.out, E3.out], by (repeat' (first | (with_reducible exact Below.refl _ _) | (with_reducible assumption) | (with_reducible refine Below.drew ?_) | (with_reducible refine below_drewN ?_ _) | ((with_reducible refine Below.alloc ?_ ?_ _); rotate_left; focus (go_size; done)) | ((with_reducible refine Below.setCell ?_ ?_ _); rotate_left; focus (go_size; done)) | ((with_reducible refine Below.trans ?_ (Below.mono (by with_reducible assumption) ?_)); rotate_left; focus (go_size; done))))⟩
        · by_cases hq2 : q < 2 ^ 128
          · have HCM := Lib.hid (fun W => cmp_any q B34 hq2 B34_lt W)
            have hcc := cmp_bound' hq
            have HNX := Far.mk (HNO.out hq he.out)
            have hcn : ¬ cmpN q B34 < 0 := by omega
            rw [fit_id hq2, over_id hq2] at HR
            have HP0 := HPW
            obtain ⟨hp0, hp1⟩ := HP0.out
            rw [← hp0, ← hp1] at HCM
            generalize cmpN q B34 = cc at *
            generalize wd q 0 = q0 at *
            generalize wd q 1 = q1 at *
            clear hq hq2 HYES HNO he hp0 hp1
            go_wp2_with ((go_at_call 74; with_reducible refine (HR.out _).mono ?_); rintro _ w1 ⟨rfl, hb1⟩; have hb1s := hb1.size; (try simp only [World.size_alloc, World.size_setCell, World.size_drew, World.heap_drewN] at hb1s); obtain ⟨hb1c, hb1f⟩ := bcell hb1; (try have : w.heap.size < w1.heap.size := by omega); (try have : w.heap.size + 1 < w1.heap.size := by omega); (try have : w.heap.size + 1 + 1 < w1.heap.size := by omega); (try have : w.heap.size + 1 + 1 + 1 < w1.heap.size := by omega))
            go_region_held3 (fun w' => w'.cell? ⟨w1.heap.size, 0, none⟩ = some (.int .u64 q1) ∧ w'.cell? ⟨w1.heap.size, 1, none⟩ = some (.int .u64 q0)) (first | (first | (go_keep; done) | (simp [go_sem]; done) | ((try dsimp only); (repeat' apply And.intro) <;> (first | (with_reducible assumption) | ((rw [World.cell?_alloc_lt _ _ _ (by show _ < _; omega)]); go_split_ands; (first | with_reducible assumption | (refine (World.cell?_alloc_lt _ _ _ (by show _ < _; omega)).symm.trans ?_; with_reducible assumption))) | ((rw [World.cell?_setCell_other _ _ _ _ (by intro e; injection e; omega)]); with_reducible assumption) | (go_keep; done) | (simp [go_sem]; done) | (simp (disch := go_size) [*, World.cell?_alloc_some, World.cell?_setCell_far]; done)))) | ((refine ⟨Bk.cell (t := 24) (cs := [.int .u64 q1, .int .u64 q0]) ?_ 0 rfl, Bk.cell (t := 24) (cs := [.int .u64 q1, .int .u64 q0]) ?_ 1 rfl⟩) <;> ((repeat (first | (with_reducible assumption) | ((with_reducible refine Bk.new_ ?_); (first | rfl | (simp only [World.size_alloc, World.size_setCell, World.size_drew, World.heap_drewN]; done))) | (with_reducible refine Bk.alloc ?_ _) | (with_reducible refine Bk.drew ?_) | (with_reducible refine Bk.drewN ?_ _) | ((with_reducible refine Bk.far ?_ ?_ _); rotate_left; focus (simp only []; omega)) | ((with_reducible refine Bk.below ?_ (by with_reducible assumption) ?_); rotate_left; focus (go_size; done)))); done))) (first | ((go_at_call 55; with_reducible refine (HBD.out _).mono ?_); rintro _ w2 ⟨rfl, hb2⟩; have hb2s := hb2.size; (try simp only [World.size_alloc, World.size_setCell, World.size_drew, World.heap_drewN] at hb2s); obtain ⟨hb2c, hb2f⟩ := bcell hb2; (try have : w.heap.size < w2.heap.size := by omega); (try have : w.heap.size + 1 < w2.heap.size := by omega); (try have : w.heap.size + 1 + 1 < w2.heap.size := by omega); (try have : w.heap.size + 1 + 1 + 1 < w2.heap.size := by omega); (try have : w1.heap.size < w2.heap.size := by omega); (try have : w1.heap.size + 1 < w2.heap.size := by omega); (try have : w1.heap.size + 1 + 1 < w2.heap.size := by omega); (try have : w1.heap.size + 1 + 1 + 1 < w2.heap.size := by omega)) | ((go_at_call 54; with_reducible refine (HCM.out _).mono ?_); rintro _ w3 ⟨rfl, hb3⟩; have hb3s := hb3.size; (try simp only [World.size_alloc, World.size_setCell, World.size_drew, World.heap_drewN] at hb3s); obtain ⟨hb3c, hb3f⟩ := bcell hb3; (try have : w.heap.size < w3.heap.size := by omega); (try have : w.heap.size + 1 < w3.heap.size := by omega); (try have : w.heap.size + 1 + 1 < w3.heap.size := by omega); (try have : w.heap.size + 1 + 1 + 1 < w3.heap.size := by omega); (try have : w1.heap.size < w3.heap.size := by omega); (try have : w1.heap.size + 1 < w3.heap.size := by omega); (try have : w1.heap.size + 1 + 1 < w3.heap.size := by omega); (try have : w1.heap.size + 1 + 1 + 1 < w3.heap.size := by omega); (try have : w2.heap.size < w3.heap.size := by omega); (try have : w2.heap.size + 1 < w3.heap.size := by omega); (try have : w2.heap.size + 1 + 1 < w3.heap.size := by omega); (try have : w2.heap.size + 1 + 1 + 1 < w3.heap.size := by omega)))
            all_goals
              refine wp_named (fun W => Bk W w.heap.size 45 (lcells n) ∧ Bk W (w.heap.size + 1) 26 [.bool false, .int .u64 0, .int .u64 0, .int .i64 0] ∧ Below w.heap.size w W) ⟨?h1, ?h2, ?h3⟩ ?_
              case h1 =>
                have b0 := HB0.out
                ((repeat (first | (with_reducible assumption) | ((with_reducible refine Bk.new_ ?_); (first | rfl | (simp only [World.size_alloc, World.size_setCell, World.size_drew, World.heap_drewN]; done))) | (with_reducible refine Bk.alloc ?_ _) | (with_reducible refine Bk.drew ?_) | (with_reducible refine Bk.drewN ?_ _) | ((with_reducible refine Bk.far ?_ ?_ _); rotate_left; focus (simp only []; omega)) | ((with_reducible refine Bk.below ?_ (by with_reducible assumption) ?_); rotate_left; focus (go_size; done)))); done)
              case h2 =>
                have b1 := HB1.out
                ((repeat (first | (with_reducible assumption) | ((with_reducible refine Bk.new_ ?_); (first | rfl | (simp only [World.size_alloc, World.size_setCell, World.size_drew, World.heap_drewN]; done))) | (with_reducible refine Bk.alloc ?_ _) | (with_reducible refine Bk.drew ?_) | (with_reducible refine Bk.drewN ?_ _) | ((with_reducible refine Bk.far ?_ ?_ _); rotate_left; focus (simp only []; omega)) | ((with_reducible refine Bk.below ?_ (by with_reducible assumption) ?_); rotate_left; focus (go_size; done)))); done)
              case h3 => ((repeat' (first | (with_reducible exact Below.refl _ _) | (with_reducible assumption) | (with_reducible refine Below.drew ?_) | (with_reducible refine below_drewN ?_ _) | ((with_reducible refine Below.alloc ?_ ?_ _); rotate_left; focus (go_size; done)) | ((with_reducible refine Below.setCell ?_ ?_ _); rotate_left; focus (go_size; done)) | ((with_reducible refine Below.trans ?_ (Below.mono (by with_reducible assumption) ?_)); rotate_left; focus (go_size; done)))); done)
              rintro W ⟨k1, k2, mb⟩
              go_wp2_with fail
              go_roundg j
              case measure => omega
              case rel => exact ⟨by omega, by omega, rfl, HNX, k1, k2, mb⟩
          · have HNX := Far.mk (HNO.out hq he.out)
            have eo : over q = 3 := by unfold over; rw [if_neg hq2]
            rw [eo] at HR
            generalize wd (fitW q) 0 = q0 at *
            generalize wd (fitW q) 1 = q1 at *
            clear hq hq2 HYES HNO he
            go_wp2_with ((go_at_call 74; with_reducible refine (HR.out _).mono ?_); rintro _ w1 ⟨rfl, hb1⟩; have hb1s := hb1.size; (try simp only [World.size_alloc, World.size_setCell, World.size_drew, World.heap_drewN] at hb1s); obtain ⟨hb1c, hb1f⟩ := bcell hb1; (try have : w.heap.size < w1.heap.size := by omega); (try have : w.heap.size + 1 < w1.heap.size := by omega); (try have : w.heap.size + 1 + 1 < w1.heap.size := by omega); (try have : w.heap.size + 1 + 1 + 1 < w1.heap.size := by omega))
            first | (go_region_with fail) | fail
            all_goals
              refine wp_named (fun W => Bk W w.heap.size 45 (lcells n) ∧ Bk W (w.heap.size + 1) 26 [.bool false, .int .u64 0, .int .u64 0, .int .i64 0] ∧ Below w.heap.size w W) ⟨?h1, ?h2, ?h3⟩ ?_
              case h1 =>
                have b0 := HB0.out
                ((repeat (first | (with_reducible assumption) | ((with_reducible refine Bk.new_ ?_); (first | rfl | (simp only [World.size_alloc, World.size_setCell, World.size_drew, World.heap_drewN]; done))) | (with_reducible refine Bk.alloc ?_ _) | (with_reducible refine Bk.drew ?_) | (with_reducible refine Bk.drewN ?_ _) | ((with_reducible refine Bk.far ?_ ?_ _); rotate_left; focus (simp only []; omega)) | ((with_reducible refine Bk.below ?_ (by with_reducible assumption) ?_); rotate_left; focus (go_size; done)))); done)
              case h2 =>
                have b1 := HB1.out
                ((repeat (first | (with_reducible assumption) | ((with_reducible refine Bk.new_ ?_); (first | rfl | (simp only [World.size_alloc, World.size_setCell, World.size_drew, World.heap_drewN]; done))) | (with_reducible refine Bk.alloc ?_ _) | (with_reducible refine Bk.drew ?_) | (with_reducible refine Bk.drewN ?_ _) | ((with_reducible refine Bk.far ?_ ?_ _); rotate_left; focus (simp only []; omega)) | ((with_reducible refine Bk.below ?_ (by with_reducible assumption) ?_); rotate_left; focus (go_size; done)))); done)
              case h3 => ((repeat' (first | (with_reducible exact Below.refl _ _) | (with_reducible assumption) | (with_reducible refine Below.drew ?_) | (with_reducible refine below_drewN ?_ _) | ((with_reducible refine Below.alloc ?_ ?_ _); rotate_left; focus (go_size; done)) | ((with_reducible refine Below.setCell ?_ ?_ _); rotate_left; focus (go_size; done)) | ((with_reducible refine Below.trans ?_ (Below.mono (by with_reducible assumption) ?_)); rotate_left; focus (go_size; done)))); done)
              rintro W ⟨k1, k2, mb⟩
              go_wp2_with fail
              go_roundg j
              case measure => omega
              case rel => exact ⟨by omega, by omega, rfl, HNX, k1, k2, mb⟩
  · have g1 : ¬ (t : Int) ≤ 18 := by omega
    have hk2 : (18 : Int) = (k : Int) - 1 := by omega
    have HK2 := Lib.hid hk2
    clear hk hk2
    go_enter Try.func51, Try.ntmps51
    go_wp2_with fail
    go_loopg [8] k (fun kk sv wr => kk ≤ t + 1 ∧ kk ≤ 19 ∧ sv = .int .i64 ((kk : Int) - 1) ∧ Far (fin (fitK n (10 ^ t) (K19 n)) = fin (fitK n (10 ^ t) kk)) ∧ Bk wr w.heap.size 45 (lcells n) ∧ Bk wr (w.heap.size + 1) 26 [.bool false, .int .u64 0, .int .u64 0, .int .i64 0] ∧ Below w.heap.size w wr)
    case atStart => exact ⟨kt, k19, congrArg (Value.int .i64) (by have := HK2.out; omega), HE, by rw [lcells_eq]; (repeat (first | (with_reducible assumption) | ((with_reducible refine Bk.new_ ?_); (first | rfl | (simp only [World.size_alloc, World.size_setCell, World.size_drew, World.heap_drewN]; done))) | (with_reducible refine Bk.alloc ?_ _) | (with_reducible refine Bk.drew ?_) | (with_reducible refine Bk.drewN ?_ _) | ((with_reducible refine Bk.far ?_ ?_ _); rotate_left; focus (simp only []; omega)) | ((with_reducible refine Bk.below ?_ (by with_reducible assumption) ?_); rotate_left; focus (go_size; done)))), by (repeat (first | (with_reducible assumption) | ((with_reducible refine Bk.new_ ?_); (first | rfl | (simp only [World.size_alloc, World.size_setCell, World.size_drew, World.heap_drewN]; done))) | (with_reducible refine Bk.alloc ?_ _) | (with_reducible refine Bk.drew ?_) | (with_reducible refine Bk.drewN ?_ _) | ((with_reducible refine Bk.far ?_ ?_ _); rotate_left; focus (simp only []; omega)) | ((with_reducible refine Bk.below ?_ (by with_reducible assumption) ?_); rotate_left; focus (go_size; done)))), by (repeat' (first | (with_reducible exact Below.refl _ _) | (with_reducible assumption) | (with_reducible refine Below.drew ?_) | (with_reducible refine below_drewN ?_ _) | ((with_reducible refine Below.alloc ?_ ?_ _); rotate_left; focus (go_size; done)) | ((with_reducible refine Below.setCell ?_ ?_ _); rotate_left; focus (go_size; done)) | ((with_reducible refine Below.trans ?_ (Below.mono (by with_reducible assumption) ?_)); rotate_left; focus (go_size; done))))⟩
    case round =>
      obtain ⟨hkt, hk19, rfl, he, b0, b1, hbel⟩ := hrel
      have HB0 := Lib.hid b0
      have HB1 := Lib.hid b1
      have hbs := hbel.size
      have l0 := b0.lt
      have l1 := b1.lt
      rw [lcells_eq] at b0
      have d0 := b0.cell 0 rfl
      have d1 := b0.cell 1 rfl
      have d2 := b0.cell 2 rfl
      have d3 := b0.cell 3 rfl
      clear b0
      by_cases hz : gk = 0
      · subst hz
        have h0 : ¬ (0 : Int) ≤ ((0 : Nat) : Int) - 1 := by omega
        have c0 := b1.cell 0 rfl
        have c1 := b1.cell 1 rfl
        have c2 := b1.cell 2 rfl
        have c3 := b1.cell 3 rfl
        have f0 := b1.frozen 0
        have f1 := b1.frozen 1
        have f2 := b1.frozen 2
        have f3 := b1.frozen 3
        clear b1
        go_wp2_with fail
        refine bodyPost_ret (by simp [results, Try.results51, go_sem, *]; try rfl) rfl ?_
        obtain ⟨e1, e2, e3⟩ := fit_step_end he.out
        exact ⟨by rw [EC.out, ES.out, EE.out, e1, e2, e3, wd_zero, wd_zero, sg_zero]; rfl, by (repeat' (first | (with_reducible exact Below.refl _ _) | (with_reducible assumption) | (with_reducible refine Below.drew ?_) | (with_reducible refine below_drewN ?_ _) | ((with_reducible refine Below.alloc ?_ ?_ _); rotate_left; focus (go_size; done)) | ((with_reducible refine Below.setCell ?_ ?_ _); rotate_left; focus (go_size; done)) | ((with_reducible refine Below.trans ?_ (Below.mono (by with_reducible assumption) ?_)); rotate_left; focus (go_size; done))))⟩
      · obtain ⟨j, rfl⟩ : ∃ j, gk = j + 1 := ⟨gk - 1, by omega⟩
        have hx : ((j + 1 : Nat) : Int) - 1 = (j : Int) := by omega
        rw [hx]
        have hjt : j ≤ t := by omega
        have j0 : (0 : Int) ≤ (j : Int) := by omega
        have j18 : (j : Int) ≤ 18 := by omega
        have gs : IntKind.i64.wrap ((t : Int) - (j : Int)) = (t : Int) - (j : Int) := IntWalk.i64_in _ (by omega)
        have HR : Hid (∀ W, Calls Try.prog 74 #[.agg #[.int .u64 (wd n 0), .int .u64 (wd n 1), .int .u64 (wd n 2), .int .u64 (wd n 3)], .int .i64 ((t : Int) - (j : Int))] W fun e w' => e = .returned (.tuple #[.agg #[.int .u64 (wd (fitW (near n (10 ^ (t - j)))) 1), .int .u64 (wd (fitW (near n (10 ^ (t - j)))) 0)], .int .i64 (over (near n (10 ^ (t - j))))]) ∧ Below W.heap.size W w') := Lib.hid (fun W => by
          rw [show (t : Int) - (j : Int) = ((t - j : Nat) : Int) by omega]
          exact round_any n HN.out (t - j) (by omega) W)
        have hyes := fit_step_yes (n := n) (t := t) (j := j) hjt
        have hno := fit_step_no (n := n) (t := t) (j := j) hjt
        have HYES := Far.mk hyes
        have HNO := Far.mk hno
        generalize near n (10 ^ (t - j)) = q at *
        clear hx hyes hno b1
        by_cases hq : q < B34
        · have hq2 : q < 2 ^ 128 := Nat.lt_trans hq B34_lt
          obtain ⟨e1, e2, e3⟩ := HYES.out hq he.out
          have HCM := Lib.hid (fun W => cmp_any q B34 hq2 B34_lt W)
          have hcc := cmp_bound hq
          have HCN := Lib.hid (fun W => canon_any neg q j hq (by omega) W)
          rw [fit_id hq2, over_id hq2] at HR
          rw [← e1, ← e2, ← EC.out, ← ES.out] at HCN
          have E3 := Far.mk e3
          have HP0 := HPW
          obtain ⟨hp0, hp1⟩ := HP0.out
          rw [← hp0, ← hp1] at HCM
          generalize cmpN q B34 = cc at *
          generalize wd q 0 = q0 at *
          generalize wd q 1 = q1 at *
          clear hq hq2 e1 e2 e3 HYES HNO he hp0 hp1
          go_wp2_with ((go_at_call 74; with_reducible refine (HR.out _).mono ?_); rintro _ w1 ⟨rfl, hb1⟩; have hb1s := hb1.size; (try simp only [World.size_alloc, World.size_setCell, World.size_drew, World.heap_drewN] at hb1s); obtain ⟨hb1c, hb1f⟩ := bcell hb1; (try have : w.heap.size < w1.heap.size := by omega); (try have : w.heap.size + 1 < w1.heap.size := by omega); (try have : w.heap.size + 1 + 1 < w1.heap.size := by omega); (try have : w.heap.size + 1 + 1 + 1 < w1.heap.size := by omega))
          go_region_held3 (fun w' => w'.cell? ⟨w1.heap.size, 0, none⟩ = some (.int .u64 q1) ∧ w'.cell? ⟨w1.heap.size, 1, none⟩ = some (.int .u64 q0)) (first | (first | (go_keep; done) | (simp [go_sem]; done) | ((try dsimp only); (repeat' apply And.intro) <;> (first | (with_reducible assumption) | ((rw [World.cell?_alloc_lt _ _ _ (by show _ < _; omega)]); go_split_ands; (first | with_reducible assumption | (refine (World.cell?_alloc_lt _ _ _ (by show _ < _; omega)).symm.trans ?_; with_reducible assumption))) | ((rw [World.cell?_setCell_other _ _ _ _ (by intro e; injection e; omega)]); with_reducible assumption) | (go_keep; done) | (simp [go_sem]; done) | (simp (disch := go_size) [*, World.cell?_alloc_some, World.cell?_setCell_far]; done)))) | ((refine ⟨Bk.cell (t := 24) (cs := [.int .u64 q1, .int .u64 q0]) ?_ 0 rfl, Bk.cell (t := 24) (cs := [.int .u64 q1, .int .u64 q0]) ?_ 1 rfl⟩) <;> ((repeat (first | (with_reducible assumption) | ((with_reducible refine Bk.new_ ?_); (first | rfl | (simp only [World.size_alloc, World.size_setCell, World.size_drew, World.heap_drewN]; done))) | (with_reducible refine Bk.alloc ?_ _) | (with_reducible refine Bk.drew ?_) | (with_reducible refine Bk.drewN ?_ _) | ((with_reducible refine Bk.far ?_ ?_ _); rotate_left; focus (simp only []; omega)) | ((with_reducible refine Bk.below ?_ (by with_reducible assumption) ?_); rotate_left; focus (go_size; done)))); done))) (first | ((go_at_call 55; with_reducible refine (HBD.out _).mono ?_); rintro _ w2 ⟨rfl, hb2⟩; have hb2s := hb2.size; (try simp only [World.size_alloc, World.size_setCell, World.size_drew, World.heap_drewN] at hb2s); obtain ⟨hb2c, hb2f⟩ := bcell hb2; (try have : w.heap.size < w2.heap.size := by omega); (try have : w.heap.size + 1 < w2.heap.size := by omega); (try have : w.heap.size + 1 + 1 < w2.heap.size := by omega); (try have : w.heap.size + 1 + 1 + 1 < w2.heap.size := by omega); (try have : w1.heap.size < w2.heap.size := by omega); (try have : w1.heap.size + 1 < w2.heap.size := by omega); (try have : w1.heap.size + 1 + 1 < w2.heap.size := by omega); (try have : w1.heap.size + 1 + 1 + 1 < w2.heap.size := by omega)) | ((go_at_call 54; with_reducible refine (HCM.out _).mono ?_); rintro _ w3 ⟨rfl, hb3⟩; have hb3s := hb3.size; (try simp only [World.size_alloc, World.size_setCell, World.size_drew, World.heap_drewN] at hb3s); obtain ⟨hb3c, hb3f⟩ := bcell hb3; (try have : w.heap.size < w3.heap.size := by omega); (try have : w.heap.size + 1 < w3.heap.size := by omega); (try have : w.heap.size + 1 + 1 < w3.heap.size := by omega); (try have : w.heap.size + 1 + 1 + 1 < w3.heap.size := by omega); (try have : w1.heap.size < w3.heap.size := by omega); (try have : w1.heap.size + 1 < w3.heap.size := by omega); (try have : w1.heap.size + 1 + 1 < w3.heap.size := by omega); (try have : w1.heap.size + 1 + 1 + 1 < w3.heap.size := by omega); (try have : w2.heap.size < w3.heap.size := by omega); (try have : w2.heap.size + 1 < w3.heap.size := by omega); (try have : w2.heap.size + 1 + 1 < w3.heap.size := by omega); (try have : w2.heap.size + 1 + 1 + 1 < w3.heap.size := by omega)))
          all_goals
            refine wp_named (fun W => Bk W w1.heap.size 24 [.int .u64 q1, .int .u64 q0] ∧ Bk W (w.heap.size + 1) 26 [.bool false, .int .u64 0, .int .u64 0, .int .i64 0] ∧ Below w.heap.size w W) ⟨?h1, ?h2, ?h3⟩ ?_
            case h1 => ((repeat (first | (with_reducible assumption) | ((with_reducible refine Bk.new_ ?_); (first | rfl | (simp only [World.size_alloc, World.size_setCell, World.size_drew, World.heap_drewN]; done))) | (with_reducible refine Bk.alloc ?_ _) | (with_reducible refine Bk.drew ?_) | (with_reducible refine Bk.drewN ?_ _) | ((with_reducible refine Bk.far ?_ ?_ _); rotate_left; focus (simp only []; omega)) | ((with_reducible refine Bk.below ?_ (by with_reducible assumption) ?_); rotate_left; focus (go_size; done)))); done)
            case h2 =>
              have b1 := HB1.out
              ((repeat (first | (with_reducible assumption) | ((with_reducible refine Bk.new_ ?_); (first | rfl | (simp only [World.size_alloc, World.size_setCell, World.size_drew, World.heap_drewN]; done))) | (with_reducible refine Bk.alloc ?_ _) | (with_reducible refine Bk.drew ?_) | (with_reducible refine Bk.drewN ?_ _) | ((with_reducible refine Bk.far ?_ ?_ _); rotate_left; focus (simp only []; omega)) | ((with_reducible refine Bk.below ?_ (by with_reducible assumption) ?_); rotate_left; focus (go_size; done)))); done)
            case h3 => ((repeat' (first | (with_reducible exact Below.refl _ _) | (with_reducible assumption) | (with_reducible refine Below.drew ?_) | (with_reducible refine below_drewN ?_ _) | ((with_reducible refine Below.alloc ?_ ?_ _); rotate_left; focus (go_size; done)) | ((with_reducible refine Below.setCell ?_ ?_ _); rotate_left; focus (go_size; done)) | ((with_reducible refine Below.trans ?_ (Below.mono (by with_reducible assumption) ?_)); rotate_left; focus (go_size; done)))); done)
            rintro W ⟨k1, k2, mb⟩
            have kl1 := k1.lt
            have kl2 := k2.lt
            have c10 := k1.cell 0 rfl
            have c11 := k1.cell 1 rfl
            have c20 := k2.cell 0 rfl
            have c21 := k2.cell 1 rfl
            have c22 := k2.cell 2 rfl
            have c23 := k2.cell 3 rfl
            have f20 := k2.frozen 0
            have f21 := k2.frozen 1
            have f22 := k2.frozen 2
            have f23 := k2.frozen 3
            clear hb1 hb2 hb3 hb1c hb2c hb3c hb1f hb2f hb3f d0 d1 d2 d3
            go_wp2_with ((go_at_call 75; with_reducible refine (HCN.out _).mono ?_); rintro _ w4 ⟨rfl, hb4⟩; have hb4s := hb4.size; (try simp only [World.size_alloc, World.size_setCell, World.size_drew, World.heap_drewN] at hb4s); obtain ⟨hb4c, hb4f⟩ := bcell hb4; (try have : w.heap.size < w4.heap.size := by omega); (try have : w.heap.size + 1 < w4.heap.size := by omega); (try have : w.heap.size + 1 + 1 < w4.heap.size := by omega); (try have : w.heap.size + 1 + 1 + 1 < w4.heap.size := by omega))
            refine bodyPost_ret (by simp [results, Try.results51, go_sem, *]; try rfl) rfl ?_
            exact ⟨by rw [EE.out, E3.out], by (repeat' (first | (with_reducible exact Below.refl _ _) | (with_reducible assumption) | (with_reducible refine Below.drew ?_) | (with_reducible refine below_drewN ?_ _) | ((with_reducible refine Below.alloc ?_ ?_ _); rotate_left; focus (go_size; done)) | ((with_reducible refine Below.setCell ?_ ?_ _); rotate_left; focus (go_size; done)) | ((with_reducible refine Below.trans ?_ (Below.mono (by with_reducible assumption) ?_)); rotate_left; focus (go_size; done))))⟩
        · by_cases hq2 : q < 2 ^ 128
          · have HCM := Lib.hid (fun W => cmp_any q B34 hq2 B34_lt W)
            have hcc := cmp_bound' hq
            have HNX := Far.mk (HNO.out hq he.out)
            have hcn : ¬ cmpN q B34 < 0 := by omega
            rw [fit_id hq2, over_id hq2] at HR
            have HP0 := HPW
            obtain ⟨hp0, hp1⟩ := HP0.out
            rw [← hp0, ← hp1] at HCM
            generalize cmpN q B34 = cc at *
            generalize wd q 0 = q0 at *
            generalize wd q 1 = q1 at *
            clear hq hq2 HYES HNO he hp0 hp1
            go_wp2_with ((go_at_call 74; with_reducible refine (HR.out _).mono ?_); rintro _ w1 ⟨rfl, hb1⟩; have hb1s := hb1.size; (try simp only [World.size_alloc, World.size_setCell, World.size_drew, World.heap_drewN] at hb1s); obtain ⟨hb1c, hb1f⟩ := bcell hb1; (try have : w.heap.size < w1.heap.size := by omega); (try have : w.heap.size + 1 < w1.heap.size := by omega); (try have : w.heap.size + 1 + 1 < w1.heap.size := by omega); (try have : w.heap.size + 1 + 1 + 1 < w1.heap.size := by omega))
            go_region_held3 (fun w' => w'.cell? ⟨w1.heap.size, 0, none⟩ = some (.int .u64 q1) ∧ w'.cell? ⟨w1.heap.size, 1, none⟩ = some (.int .u64 q0)) (first | (first | (go_keep; done) | (simp [go_sem]; done) | ((try dsimp only); (repeat' apply And.intro) <;> (first | (with_reducible assumption) | ((rw [World.cell?_alloc_lt _ _ _ (by show _ < _; omega)]); go_split_ands; (first | with_reducible assumption | (refine (World.cell?_alloc_lt _ _ _ (by show _ < _; omega)).symm.trans ?_; with_reducible assumption))) | ((rw [World.cell?_setCell_other _ _ _ _ (by intro e; injection e; omega)]); with_reducible assumption) | (go_keep; done) | (simp [go_sem]; done) | (simp (disch := go_size) [*, World.cell?_alloc_some, World.cell?_setCell_far]; done)))) | ((refine ⟨Bk.cell (t := 24) (cs := [.int .u64 q1, .int .u64 q0]) ?_ 0 rfl, Bk.cell (t := 24) (cs := [.int .u64 q1, .int .u64 q0]) ?_ 1 rfl⟩) <;> ((repeat (first | (with_reducible assumption) | ((with_reducible refine Bk.new_ ?_); (first | rfl | (simp only [World.size_alloc, World.size_setCell, World.size_drew, World.heap_drewN]; done))) | (with_reducible refine Bk.alloc ?_ _) | (with_reducible refine Bk.drew ?_) | (with_reducible refine Bk.drewN ?_ _) | ((with_reducible refine Bk.far ?_ ?_ _); rotate_left; focus (simp only []; omega)) | ((with_reducible refine Bk.below ?_ (by with_reducible assumption) ?_); rotate_left; focus (go_size; done)))); done))) (first | ((go_at_call 55; with_reducible refine (HBD.out _).mono ?_); rintro _ w2 ⟨rfl, hb2⟩; have hb2s := hb2.size; (try simp only [World.size_alloc, World.size_setCell, World.size_drew, World.heap_drewN] at hb2s); obtain ⟨hb2c, hb2f⟩ := bcell hb2; (try have : w.heap.size < w2.heap.size := by omega); (try have : w.heap.size + 1 < w2.heap.size := by omega); (try have : w.heap.size + 1 + 1 < w2.heap.size := by omega); (try have : w.heap.size + 1 + 1 + 1 < w2.heap.size := by omega); (try have : w1.heap.size < w2.heap.size := by omega); (try have : w1.heap.size + 1 < w2.heap.size := by omega); (try have : w1.heap.size + 1 + 1 < w2.heap.size := by omega); (try have : w1.heap.size + 1 + 1 + 1 < w2.heap.size := by omega)) | ((go_at_call 54; with_reducible refine (HCM.out _).mono ?_); rintro _ w3 ⟨rfl, hb3⟩; have hb3s := hb3.size; (try simp only [World.size_alloc, World.size_setCell, World.size_drew, World.heap_drewN] at hb3s); obtain ⟨hb3c, hb3f⟩ := bcell hb3; (try have : w.heap.size < w3.heap.size := by omega); (try have : w.heap.size + 1 < w3.heap.size := by omega); (try have : w.heap.size + 1 + 1 < w3.heap.size := by omega); (try have : w.heap.size + 1 + 1 + 1 < w3.heap.size := by omega); (try have : w1.heap.size < w3.heap.size := by omega); (try have : w1.heap.size + 1 < w3.heap.size := by omega); (try have : w1.heap.size + 1 + 1 < w3.heap.size := by omega); (try have : w1.heap.size + 1 + 1 + 1 < w3.heap.size := by omega); (try have : w2.heap.size < w3.heap.size := by omega); (try have : w2.heap.size + 1 < w3.heap.size := by omega); (try have : w2.heap.size + 1 + 1 < w3.heap.size := by omega); (try have : w2.heap.size + 1 + 1 + 1 < w3.heap.size := by omega)))
            all_goals
              refine wp_named (fun W => Bk W w.heap.size 45 (lcells n) ∧ Bk W (w.heap.size + 1) 26 [.bool false, .int .u64 0, .int .u64 0, .int .i64 0] ∧ Below w.heap.size w W) ⟨?h1, ?h2, ?h3⟩ ?_
              case h1 =>
                have b0 := HB0.out
                ((repeat (first | (with_reducible assumption) | ((with_reducible refine Bk.new_ ?_); (first | rfl | (simp only [World.size_alloc, World.size_setCell, World.size_drew, World.heap_drewN]; done))) | (with_reducible refine Bk.alloc ?_ _) | (with_reducible refine Bk.drew ?_) | (with_reducible refine Bk.drewN ?_ _) | ((with_reducible refine Bk.far ?_ ?_ _); rotate_left; focus (simp only []; omega)) | ((with_reducible refine Bk.below ?_ (by with_reducible assumption) ?_); rotate_left; focus (go_size; done)))); done)
              case h2 =>
                have b1 := HB1.out
                ((repeat (first | (with_reducible assumption) | ((with_reducible refine Bk.new_ ?_); (first | rfl | (simp only [World.size_alloc, World.size_setCell, World.size_drew, World.heap_drewN]; done))) | (with_reducible refine Bk.alloc ?_ _) | (with_reducible refine Bk.drew ?_) | (with_reducible refine Bk.drewN ?_ _) | ((with_reducible refine Bk.far ?_ ?_ _); rotate_left; focus (simp only []; omega)) | ((with_reducible refine Bk.below ?_ (by with_reducible assumption) ?_); rotate_left; focus (go_size; done)))); done)
              case h3 => ((repeat' (first | (with_reducible exact Below.refl _ _) | (with_reducible assumption) | (with_reducible refine Below.drew ?_) | (with_reducible refine below_drewN ?_ _) | ((with_reducible refine Below.alloc ?_ ?_ _); rotate_left; focus (go_size; done)) | ((with_reducible refine Below.setCell ?_ ?_ _); rotate_left; focus (go_size; done)) | ((with_reducible refine Below.trans ?_ (Below.mono (by with_reducible assumption) ?_)); rotate_left; focus (go_size; done)))); done)
              rintro W ⟨k1, k2, mb⟩
              go_wp2_with fail
              go_roundg j
              case measure => omega
              case rel => exact ⟨by omega, by omega, rfl, HNX, k1, k2, mb⟩
          · have HNX := Far.mk (HNO.out hq he.out)
            have eo : over q = 3 := by unfold over; rw [if_neg hq2]
            rw [eo] at HR
            generalize wd (fitW q) 0 = q0 at *
            generalize wd (fitW q) 1 = q1 at *
            clear hq hq2 HYES HNO he
            go_wp2_with ((go_at_call 74; with_reducible refine (HR.out _).mono ?_); rintro _ w1 ⟨rfl, hb1⟩; have hb1s := hb1.size; (try simp only [World.size_alloc, World.size_setCell, World.size_drew, World.heap_drewN] at hb1s); obtain ⟨hb1c, hb1f⟩ := bcell hb1; (try have : w.heap.size < w1.heap.size := by omega); (try have : w.heap.size + 1 < w1.heap.size := by omega); (try have : w.heap.size + 1 + 1 < w1.heap.size := by omega); (try have : w.heap.size + 1 + 1 + 1 < w1.heap.size := by omega))
            first | (go_region_with fail) | fail
            all_goals
              refine wp_named (fun W => Bk W w.heap.size 45 (lcells n) ∧ Bk W (w.heap.size + 1) 26 [.bool false, .int .u64 0, .int .u64 0, .int .i64 0] ∧ Below w.heap.size w W) ⟨?h1, ?h2, ?h3⟩ ?_
              case h1 =>
                have b0 := HB0.out
                ((repeat (first | (with_reducible assumption) | ((with_reducible refine Bk.new_ ?_); (first | rfl | (simp only [World.size_alloc, World.size_setCell, World.size_drew, World.heap_drewN]; done))) | (with_reducible refine Bk.alloc ?_ _) | (with_reducible refine Bk.drew ?_) | (with_reducible refine Bk.drewN ?_ _) | ((with_reducible refine Bk.far ?_ ?_ _); rotate_left; focus (simp only []; omega)) | ((with_reducible refine Bk.below ?_ (by with_reducible assumption) ?_); rotate_left; focus (go_size; done)))); done)
              case h2 =>
                have b1 := HB1.out
                ((repeat (first | (with_reducible assumption) | ((with_reducible refine Bk.new_ ?_); (first | rfl | (simp only [World.size_alloc, World.size_setCell, World.size_drew, World.heap_drewN]; done))) | (with_reducible refine Bk.alloc ?_ _) | (with_reducible refine Bk.drew ?_) | (with_reducible refine Bk.drewN ?_ _) | ((with_reducible refine Bk.far ?_ ?_ _); rotate_left; focus (simp only []; omega)) | ((with_reducible refine Bk.below ?_ (by with_reducible assumption) ?_); rotate_left; focus (go_size; done)))); done)
              case h3 => ((repeat' (first | (with_reducible exact Below.refl _ _) | (with_reducible assumption) | (with_reducible refine Below.drew ?_) | (with_reducible refine below_drewN ?_ _) | ((with_reducible refine Below.alloc ?_ ?_ _); rotate_left; focus (go_size; done)) | ((with_reducible refine Below.setCell ?_ ?_ _); rotate_left; focus (go_size; done)) | ((with_reducible refine Below.trans ?_ (Below.mono (by with_reducible assumption) ?_)); rotate_left; focus (go_size; done)))); done)
              rintro W ⟨k1, k2, mb⟩
              go_wp2_with fail
              go_roundg j
              case measure => omega
              case rel => exact ⟨by omega, by omega, rfl, HNX, k1, k2, mb⟩
end Go.Proofs.Ythkgjodidkpaeaa
