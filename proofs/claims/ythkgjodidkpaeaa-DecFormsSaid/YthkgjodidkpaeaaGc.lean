/- The reference: the form, the negative, a number in units. -/
import Derived.Test.YthkgjodidkpaeaaGa
import Derived.IntWalk
set_option linter.unusedSimpArgs false
set_option linter.unusedVariables false
namespace Go.Proofs.Ythkgjodidkpaeaa
open Go.RowKit

set_option maxHeartbeats 4000000 in
theorem rform_any (b : Bool) (c : Nat) (s : Int) (hc : c < 2 ^ 128) (w : World) : Calls Try.prog 13 #[.agg #[.bool b, .int .u64 (wd (c) 1), .int .u64 (wd (c) 0), .int .i64 s]] w fun e w' => e = .returned (.bool (dform b c s)) ∧ Below w.heap.size w w' := by
  have HO := Lib.hid (fun W => of_any c hc W)
  obtain ⟨x0, hx0⟩ : ∃ x, x = wd c 0 := ⟨_, rfl⟩
  obtain ⟨x1, hx1⟩ : ∃ x, x = wd c 1 := ⟨_, rfl⟩
  rw [← hx0, ← hx1] at HO
  rw [← hx0, ← hx1]
  obtain ⟨f, hf⟩ : ∃ f, f = dform b c s := ⟨_, rfl⟩
  rw [← hf]
  have HF := Far.mk hf
  clear hx0 hx1 hc hf
  go_enter Try.func13, Try.ntmps13
  go_wp2_with fail
  refine (HO.out _).mono ?_
  rintro _ w1 ⟨v1, rfl, d1, hb1⟩; have hb1s := hb1.size; (try simp only [World.size_alloc, World.size_setCell, World.size_drew, World.heap_drewN] at hb1s); obtain ⟨hb1c, hb1f⟩ := bcell hb1; (try have : w.heap.size < w1.heap.size := by omega); (try have : w.heap.size + 1 < w1.heap.size := by omega); (try have : w.heap.size + 1 + 1 < w1.heap.size := by omega); (try have : w.heap.size + 1 + 1 + 1 < w1.heap.size := by omega); have Hd1 := Lib.hid d1; clear d1
  have k0 : Bk w1 w.heap.size 26 [.bool b, .int .u64 x1, .int .u64 x0, .int .i64 s] := by (repeat (first | (with_reducible assumption) | ((with_reducible refine Bk.new_ ?_); (first | rfl | (simp only [World.size_alloc, World.size_setCell, World.size_drew, World.heap_drewN]; done))) | (with_reducible refine Bk.alloc ?_ _) | (with_reducible refine Bk.drew ?_) | (with_reducible refine Bk.drewN ?_ _) | ((with_reducible refine Bk.far ?_ ?_ _); rotate_left; focus (simp only []; omega)) | ((with_reducible refine Bk.below ?_ (by with_reducible assumption) ?_); rotate_left; focus (go_size; done))))
  have k0_0 := k0.cell 0 rfl
  have k0_1 := k0.cell 1 rfl
  have k0_2 := k0.cell 2 rfl
  have k0_3 := k0.cell 3 rfl
  have k0_4 := k0.frozen 0
  have k0_5 := k0.frozen 1
  have k0_6 := k0.frozen 2
  have k0_7 := k0.frozen 3
  have k0l := k0.lt
  have mb : Below w.heap.size w w1 := by (repeat' (first | (with_reducible exact Below.refl _ _) | (with_reducible assumption) | (with_reducible refine Below.drew ?_) | (with_reducible refine below_drewN ?_ _) | ((with_reducible refine Below.alloc ?_ ?_ _); rotate_left; focus (go_size; done)) | ((with_reducible refine Below.setCell ?_ ?_ _); rotate_left; focus (go_size; done)) | ((with_reducible refine Below.trans ?_ (Below.mono (by with_reducible assumption) ?_)); rotate_left; focus (go_size; done))))
  clear k0 hb1c hb1f hb1 hb1s
  obtain ⟨xs, ⟨A, k, rfl, hk, hs⟩, hd⟩ := Hd1.out
  have h34 := len_34 hd
  by_cases hb : c < B34
  · have hl : (xs.length : Int) ≤ 34 := by have := h34.2 hb; omega
    have hl' : ¬ (34 : Int) < (xs.length : Int) := by omega
    by_cases h0 : s < 0
    · have e := HF.out
      rw [dform_neg h0] at e
      subst e
      clear hb h34 hk hs hd
      go_wp2_with fail
      go_ret
      exact ⟨rfl, by (repeat' (first | (with_reducible exact Below.refl _ _) | (with_reducible assumption) | (with_reducible refine Below.drew ?_) | (with_reducible refine below_drewN ?_ _) | ((with_reducible refine Below.alloc ?_ ?_ _); rotate_left; focus (go_size; done)) | ((with_reducible refine Below.setCell ?_ ?_ _); rotate_left; focus (go_size; done)) | ((with_reducible refine Below.trans ?_ (Below.mono (by with_reducible assumption) ?_)); rotate_left; focus (go_size; done))))⟩
    · by_cases h1 : 18 < s
      · have e := HF.out
        rw [dform_deep h1] at e
        subst e
        clear hb h34 hk hs hd
        go_wp2_with fail
        go_ret
        exact ⟨rfl, by (repeat' (first | (with_reducible exact Below.refl _ _) | (with_reducible assumption) | (with_reducible refine Below.drew ?_) | (with_reducible refine below_drewN ?_ _) | ((with_reducible refine Below.alloc ?_ ?_ _); rotate_left; focus (go_size; done)) | ((with_reducible refine Below.setCell ?_ ?_ _); rotate_left; focus (go_size; done)) | ((with_reducible refine Below.trans ?_ (Below.mono (by with_reducible assumption) ?_)); rotate_left; focus (go_size; done))))⟩
      · have e := HF.out
        rw [dform_in hb (by omega) (by omega)] at e
        by_cases hz : c = 0
        · rw [if_pos hz] at e
          have hl0 : xs.length = 0 := hd.zero_iff.2 hz
          have E := Lib.hid e
          clear hb h34 hk hs hd hz e HF
          rw [hl0]
          cases b
          · go_wp2_with fail
            go_ret
            exact ⟨ret_bool (by rw [E.out]; simp; first | rfl | omega | (rw [Bool.eq_iff_iff]; simp)), by (repeat' (first | (with_reducible exact Below.refl _ _) | (with_reducible assumption) | (with_reducible refine Below.drew ?_) | (with_reducible refine below_drewN ?_ _) | ((with_reducible refine Below.alloc ?_ ?_ _); rotate_left; focus (go_size; done)) | ((with_reducible refine Below.setCell ?_ ?_ _); rotate_left; focus (go_size; done)) | ((with_reducible refine Below.trans ?_ (Below.mono (by with_reducible assumption) ?_)); rotate_left; focus (go_size; done))))⟩
          · go_wp2_with fail
            go_ret
            exact ⟨ret_bool (by rw [E.out]; rfl), by (repeat' (first | (with_reducible exact Below.refl _ _) | (with_reducible assumption) | (with_reducible refine Below.drew ?_) | (with_reducible refine below_drewN ?_ _) | ((with_reducible refine Below.alloc ?_ ?_ _); rotate_left; focus (go_size; done)) | ((with_reducible refine Below.setCell ?_ ?_ _); rotate_left; focus (go_size; done)) | ((with_reducible refine Below.trans ?_ (Below.mono (by with_reducible assumption) ?_)); rotate_left; focus (go_size; done))))⟩
        · rw [if_neg hz] at e
          have E := Lib.hid e
          obtain ⟨g, o, k', c', e', hkc, hcell, hg⟩ := dg_first Hd1.out hz
          injection e' with e1 e2 e3
          subst e1
          have hlp : ((xs.length : Int) == 0) = false := by rw [beq_eq_false_iff_ne]; omega
          have hlq : (0 : Int) < (xs.length : Int) := by omega
          obtain ⟨d, hdd⟩ : ∃ d : Int, d = ((c % 10 : Nat) : Int) := ⟨_, rfl⟩
          rw [← hdd] at hcell
          have HDD := Lib.hid hdd
          clear hb h34 hk hs hd hz e HF hdd e2 e3
          by_cases hs0 : s = 0
          · have g2 : (s == 0) = true := by simpa using hs0
            have HS := Lib.hid hs0
            clear hs0
            go_wp2_with fail
            go_ret
            exact ⟨ret_bool (by rw [E.out, HS.out]; rfl), by (repeat' (first | (with_reducible exact Below.refl _ _) | (with_reducible assumption) | (with_reducible refine Below.drew ?_) | (with_reducible refine below_drewN ?_ _) | ((with_reducible refine Below.alloc ?_ ?_ _); rotate_left; focus (go_size; done)) | ((with_reducible refine Below.setCell ?_ ?_ _); rotate_left; focus (go_size; done)) | ((with_reducible refine Below.trans ?_ (Below.mono (by with_reducible assumption) ?_)); rotate_left; focus (go_size; done))))⟩
          · have g2 : (s == 0) = false := by simpa using hs0
            have HS := Lib.hid hs0
            clear hs0
            go_wp2_with fail
            go_ret
            exact ⟨ret_bool (by rw [E.out, decide_eq_false HS.out, Bool.false_or, Bool.eq_iff_iff]; have := HDD.out; simp; omega), by (repeat' (first | (with_reducible exact Below.refl _ _) | (with_reducible assumption) | (with_reducible refine Below.drew ?_) | (with_reducible refine below_drewN ?_ _) | ((with_reducible refine Below.alloc ?_ ?_ _); rotate_left; focus (go_size; done)) | ((with_reducible refine Below.setCell ?_ ?_ _); rotate_left; focus (go_size; done)) | ((with_reducible refine Below.trans ?_ (Below.mono (by with_reducible assumption) ?_)); rotate_left; focus (go_size; done))))⟩
  · have e := HF.out
    rw [dform_hi hb] at e
    subst e
    have hl : (34 : Int) < (xs.length : Int) := by have := mt h34.1 hb; omega
    clear hb h34 hk hs hd
    go_wp2_with fail
    go_ret
    exact ⟨rfl, by (repeat' (first | (with_reducible exact Below.refl _ _) | (with_reducible assumption) | (with_reducible refine Below.drew ?_) | (with_reducible refine below_drewN ?_ _) | ((with_reducible refine Below.alloc ?_ ?_ _); rotate_left; focus (go_size; done)) | ((with_reducible refine Below.setCell ?_ ?_ _); rotate_left; focus (go_size; done)) | ((with_reducible refine Below.trans ?_ (Below.mono (by with_reducible assumption) ?_)); rotate_left; focus (go_size; done))))⟩
set_option maxHeartbeats 2000000 in
theorem flip_any (b : Bool) (c : Nat) (s : Int) (hc : c < 2 ^ 128) (w : World) : Calls Try.prog 65 #[.agg #[.bool b, .int .u64 (wd (c) 1), .int .u64 (wd (c) 0), .int .i64 s]] w fun e w' => e = .returned (.agg #[.bool (sg (!b) c), .int .u64 (wd (c) 1), .int .u64 (wd (c) 0), .int .i64 s]) ∧ Below w.heap.size w w' := by
  have qz : ∀ W, (binOp .neq 24 (.agg #[.int .u64 (wd c 1), .int .u64 (wd c 0)]) (.agg #[.int .u64 0, .int .u64 0])).run Try.prog W = .ok (.bool (!(decide (c = 0)))) W := fun W => by rw [neq_wide, eq_nil hc]
  obtain ⟨z, hz⟩ : ∃ z, z = decide (c = 0) := ⟨_, rfl⟩
  obtain ⟨r, hr⟩ : ∃ r, r = sg (!b) c := ⟨_, rfl⟩
  have HR := Lib.hid (show r = (!b && !z) by rw [hr, hz]; unfold sg; simp)
  rw [← hz] at qz
  rw [← hr]
  generalize wd c 0 = x0 at *
  generalize wd c 1 = x1 at *
  clear hc hz hr
  cases b
  · go_enter Try.func65, Try.ntmps65
    go_wp2_with fail
    refine bodyPost_ret (by simp [results, Try.results65, go_sem, *]; try rfl) rfl ?_
    exact ⟨by rw [HR.out]; rfl, by (repeat' (first | (with_reducible exact Below.refl _ _) | (with_reducible assumption) | (with_reducible refine Below.drew ?_) | (with_reducible refine below_drewN ?_ _) | ((with_reducible refine Below.alloc ?_ ?_ _); rotate_left; focus (go_size; done)) | ((with_reducible refine Below.setCell ?_ ?_ _); rotate_left; focus (go_size; done)) | ((with_reducible refine Below.trans ?_ (Below.mono (by with_reducible assumption) ?_)); rotate_left; focus (go_size; done))))⟩
  · go_enter Try.func65, Try.ntmps65
    go_wp2_with fail
    refine bodyPost_ret (by simp [results, Try.results65, go_sem, *]; try rfl) rfl ?_
    exact ⟨by rw [HR.out]; rfl, by (repeat' (first | (with_reducible exact Below.refl _ _) | (with_reducible assumption) | (with_reducible refine Below.drew ?_) | (with_reducible refine below_drewN ?_ _) | ((with_reducible refine Below.alloc ?_ ?_ _); rotate_left; focus (go_size; done)) | ((with_reducible refine Below.setCell ?_ ?_ _); rotate_left; focus (go_size; done)) | ((with_reducible refine Below.trans ?_ (Below.mono (by with_reducible assumption) ?_)); rotate_left; focus (go_size; done))))⟩
def RetUnits (b : Bool) (n : Nat) (w : World) (e : Ending) (w' : World) : Prop := ∃ v, e = .returned (.tuple #[.bool b, v]) ∧ Dg w' v n ∧ Below w.heap.size w w'
set_option maxHeartbeats 4000000 in
theorem units_any (b : Bool) (c s : Nat) (hc : c < 2 ^ 128) (hs : s ≤ 18) (w : World) : Calls Try.prog 66 #[.agg #[.bool b, .int .u64 (wd (c) 1), .int .u64 (wd (c) 0), .int .i64 s]] w (RetUnits b (unit c s) w) := by
  have HO := Lib.hid (fun W => of_any c hc W)
  have HSM := Lib.hid (lt_128_tiny hc).small
  generalize wd c 0 = x0 at *
  generalize wd c 1 = x1 at *
  have gw : IntKind.i64.wrap (18 - (s : Int)) = 18 - (s : Int) := IntWalk.i64_in _ (by omega)
  have HX : Hid (∀ W v, Dg W v c → Calls Try.prog 91 #[v, .int .i64 (18 - (s : Int))] W (RetDg (unit c s) W)) := Lib.hid (fun W v hv => by
    rw [show (18 : Int) - (s : Int) = ((18 - s : Nat) : Int) by omega]
    exact shift_any c (18 - s) (by omega) v W hv HSM.out)
  generalize unit c s = U at *
  clear hc
  go_enter Try.func66, Try.ntmps66
  go_wp2_with fail
  go_region_held3 (fun w' => (w'.cell? ⟨w.heap.size, 0, none⟩ = some (.bool b) ∧ w'.cell? ⟨w.heap.size, 1, none⟩ = some (.int .u64 x1) ∧ w'.cell? ⟨w.heap.size, 2, none⟩ = some (.int .u64 x0) ∧ w'.cell? ⟨w.heap.size, 3, none⟩ = some (.int .i64 ((s : Int))))) (first | (first | (go_keep; done) | (simp [go_sem]; done) | ((try dsimp only); (repeat' apply And.intro) <;> (first | (with_reducible assumption) | ((rw [World.cell?_alloc_lt _ _ _ (by show _ < _; omega)]); go_split_ands; (first | with_reducible assumption | (refine (World.cell?_alloc_lt _ _ _ (by show _ < _; omega)).symm.trans ?_; with_reducible assumption))) | ((rw [World.cell?_setCell_other _ _ _ _ (by intro e; injection e; omega)]); with_reducible assumption) | (go_keep; done) | (simp [go_sem]; done) | (simp (disch := go_size) [*, World.cell?_alloc_some, World.cell?_setCell_far]; done)))) | ((refine ⟨Bk.cell (t := 26) (cs := [.bool b, .int .u64 x1, .int .u64 x0, .int .i64 ((s : Int))]) ?_ 0 rfl, Bk.cell (t := 26) (cs := [.bool b, .int .u64 x1, .int .u64 x0, .int .i64 ((s : Int))]) ?_ 1 rfl, Bk.cell (t := 26) (cs := [.bool b, .int .u64 x1, .int .u64 x0, .int .i64 ((s : Int))]) ?_ 2 rfl, Bk.cell (t := 26) (cs := [.bool b, .int .u64 x1, .int .u64 x0, .int .i64 ((s : Int))]) ?_ 3 rfl⟩) <;> ((repeat (first | (with_reducible assumption) | ((with_reducible refine Bk.new_ ?_); (first | rfl | (simp only [World.size_alloc, World.size_setCell, World.size_drew, World.heap_drewN]; done))) | (with_reducible refine Bk.alloc ?_ _) | (with_reducible refine Bk.drew ?_) | (with_reducible refine Bk.drewN ?_ _) | ((with_reducible refine Bk.far ?_ ?_ _); rotate_left; focus (simp only []; omega)) | ((with_reducible refine Bk.below ?_ (by with_reducible assumption) ?_); rotate_left; focus (go_size; done)))); done))) (first | (go_at_call 49; (with_reducible refine (HO.out _).mono ?_); rintro _ w1 ⟨v1, rfl, d1, hb1⟩; have hb1s := hb1.size; (try simp only [World.size_alloc, World.size_setCell, World.size_drew, World.heap_drewN] at hb1s); obtain ⟨hb1c, hb1f⟩ := bcell hb1; (try have : w.heap.size < w1.heap.size := by omega); (try have : w.heap.size + 1 < w1.heap.size := by omega); (try have : w.heap.size + 1 + 1 < w1.heap.size := by omega); (try have : w.heap.size + 1 + 1 + 1 < w1.heap.size := by omega); have Hd1 := Lib.hid d1; clear d1) | (go_at_call 91; (with_reducible refine (HX.out _ _ ?hx).mono ?_); (case hx => ((first | exact Hid.out (by assumption) | exact Dg.below (Hid.out (by assumption)) (by (repeat' (first | (with_reducible exact Below.refl _ _) | (with_reducible assumption) | (with_reducible refine Below.drew ?_) | (with_reducible refine below_drewN ?_ _) | ((with_reducible refine Below.alloc ?_ ?_ _); rotate_left; focus (go_size; done)) | ((with_reducible refine Below.setCell ?_ ?_ _); rotate_left; focus (go_size; done)) | ((with_reducible refine Below.trans ?_ (Below.mono (by with_reducible assumption) ?_)); rotate_left; focus (go_size; done)))))))); rintro _ w2 ⟨v2, rfl, d2, hb2⟩; have hb2s := hb2.size; (try simp only [World.size_alloc, World.size_setCell, World.size_drew, World.heap_drewN] at hb2s); obtain ⟨hb2c, hb2f⟩ := bcell hb2; (try have : w.heap.size < w2.heap.size := by omega); (try have : w.heap.size + 1 < w2.heap.size := by omega); (try have : w.heap.size + 1 + 1 < w2.heap.size := by omega); (try have : w.heap.size + 1 + 1 + 1 < w2.heap.size := by omega); have Hd2 := Lib.hid d2; clear d2; (try have : w1.heap.size < w2.heap.size := by omega); (try have : w1.heap.size + 1 < w2.heap.size := by omega); (try have : w1.heap.size + 1 + 1 < w2.heap.size := by omega); (try have : w1.heap.size + 1 + 1 + 1 < w2.heap.size := by omega)))
  all_goals
    go_wp2_with fail
    go_ret2
    exact ⟨_, rfl, by (first | exact Hid.out (by assumption) | exact Dg.below (Hid.out (by assumption)) (by (repeat' (first | (with_reducible exact Below.refl _ _) | (with_reducible assumption) | (with_reducible refine Below.drew ?_) | (with_reducible refine below_drewN ?_ _) | ((with_reducible refine Below.alloc ?_ ?_ _); rotate_left; focus (go_size; done)) | ((with_reducible refine Below.setCell ?_ ?_ _); rotate_left; focus (go_size; done)) | ((with_reducible refine Below.trans ?_ (Below.mono (by with_reducible assumption) ?_)); rotate_left; focus (go_size; done)))))), by (repeat' (first | (with_reducible exact Below.refl _ _) | (with_reducible assumption) | (with_reducible refine Below.drew ?_) | (with_reducible refine below_drewN ?_ _) | ((with_reducible refine Below.alloc ?_ ?_ _); rotate_left; focus (go_size; done)) | ((with_reducible refine Below.setCell ?_ ?_ _); rotate_left; focus (go_size; done)) | ((with_reducible refine Below.trans ?_ (Below.mono (by with_reducible assumption) ?_)); rotate_left; focus (go_size; done))))⟩
def RetSum (an : Bool) (x : Nat) (bn : Bool) (y : Nat) (w : World) (e : Ending) (w' : World) : Prop := ∃ v, e = .returned (.tuple #[.bool (sgn an x bn y), v]) ∧ Dg w' v (sab an x bn y) ∧ Below w.heap.size w w'
set_option maxHeartbeats 4000000 in
theorem rsum_any (an : Bool) (x : Nat) (bn : Bool) (y : Nat) (u v : Value) (w : World) (hu : Dg w u x) (hv : Dg w v y) (hx : Tiny x) (hy : Tiny y) :
    Calls Try.prog 67 #[.bool an, u, .bool bn, v] w (RetSum an x bn y w) := by
  have HU := Lib.hid hu
  have HV := Lib.hid hv
  have HX := Lib.hid hx.small
  have HY := Lib.hid hy.small
  obtain ⟨N, hN⟩ : ∃ N, N = sgn an x bn y := ⟨_, rfl⟩
  obtain ⟨U, hU⟩ : ∃ U, U = sab an x bn y := ⟨_, rfl⟩
  unfold RetSum
  rw [← hN, ← hU]
  clear hu hv hx hy
  by_cases hb : an = bn
  · have hbe : (an == bn) = true := by simpa using hb
    have e1 : N = an := by rw [hN]; unfold sgn; rw [if_pos hb]
    have e2 : U = x + y := by rw [hU]; unfold sab; rw [if_pos hb]
    subst e1
    have E2 := Lib.hid e2
    clear hb hN hU e2
    go_enter Try.func67, Try.ntmps67
    go_wp2_with fail
    refine (plus_any x y _ _ _ HU.out HV.out HX.out HY.out).mono ?_
    rintro _ w1 ⟨v1, rfl, d1, hb1⟩; have hb1s := hb1.size; (try simp only [World.size_alloc, World.size_setCell, World.size_drew, World.heap_drewN] at hb1s); obtain ⟨hb1c, hb1f⟩ := bcell hb1; (try have : w.heap.size < w1.heap.size := by omega); (try have : w.heap.size + 1 < w1.heap.size := by omega); (try have : w.heap.size + 1 + 1 < w1.heap.size := by omega); (try have : w.heap.size + 1 + 1 + 1 < w1.heap.size := by omega); have Hd1 := Lib.hid d1; clear d1
    go_wp2_with fail
    go_ret2
    exact ⟨_, rfl, by rw [E2.out]; exact Hd1.out, by (repeat' (first | (with_reducible exact Below.refl _ _) | (with_reducible assumption) | (with_reducible refine Below.drew ?_) | (with_reducible refine below_drewN ?_ _) | ((with_reducible refine Below.alloc ?_ ?_ _); rotate_left; focus (go_size; done)) | ((with_reducible refine Below.setCell ?_ ?_ _); rotate_left; focus (go_size; done)) | ((with_reducible refine Below.trans ?_ (Below.mono (by with_reducible assumption) ?_)); rotate_left; focus (go_size; done))))⟩
  · have hbe : (an == bn) = false := by simpa using hb
    by_cases hl : y ≤ x
    · have hc : 0 ≤ cmpN x y := by unfold cmpN; split <;> (try split) <;> omega
      have e1 : N = an := by rw [hN]; unfold sgn; rw [if_neg hb, if_pos hl]
      have e2 : U = x - y := by rw [hU]; unfold sab; rw [if_neg hb, if_pos hl]
      subst e1
      have E2 := Lib.hid e2
      have HL := Lib.hid hl
      have HC := Lib.hid (fun W hu hv => rcmp_bel x y u v W hu hv HX.out HY.out)
      generalize cmpN x y = cc at *
      clear hb hN hU e2 hl
      go_enter Try.func67, Try.ntmps67
      go_wp2_with fail
      refine (HC.out _ HU.out HV.out).mono ?_
      rintro _ w1 ⟨rfl, hb1⟩; have hb1s := hb1.size; (try simp only [World.size_alloc, World.size_setCell, World.size_drew, World.heap_drewN] at hb1s); obtain ⟨hb1c, hb1f⟩ := bcell hb1; (try have : w.heap.size < w1.heap.size := by omega); (try have : w.heap.size + 1 < w1.heap.size := by omega); (try have : w.heap.size + 1 + 1 < w1.heap.size := by omega); (try have : w.heap.size + 1 + 1 + 1 < w1.heap.size := by omega)
      go_wp2_with fail
      refine (rless_any x y HL.out _ _ _ (HU.out.below hb1) (HV.out.below hb1) HX.out HY.out).mono ?_
      rintro _ w2 ⟨v2, rfl, d2, hb2⟩; have hb2s := hb2.size; (try simp only [World.size_alloc, World.size_setCell, World.size_drew, World.heap_drewN] at hb2s); obtain ⟨hb2c, hb2f⟩ := bcell hb2; (try have : w.heap.size < w2.heap.size := by omega); (try have : w.heap.size + 1 < w2.heap.size := by omega); (try have : w.heap.size + 1 + 1 < w2.heap.size := by omega); (try have : w.heap.size + 1 + 1 + 1 < w2.heap.size := by omega); have Hd2 := Lib.hid d2; clear d2
      go_wp2_with fail
      go_ret2
      exact ⟨_, rfl, by rw [E2.out]; exact Hd2.out, by (repeat' (first | (with_reducible exact Below.refl _ _) | (with_reducible assumption) | (with_reducible refine Below.drew ?_) | (with_reducible refine below_drewN ?_ _) | ((with_reducible refine Below.alloc ?_ ?_ _); rotate_left; focus (go_size; done)) | ((with_reducible refine Below.setCell ?_ ?_ _); rotate_left; focus (go_size; done)) | ((with_reducible refine Below.trans ?_ (Below.mono (by with_reducible assumption) ?_)); rotate_left; focus (go_size; done))))⟩
    · have hc : ¬ 0 ≤ cmpN x y := by unfold cmpN; rw [if_neg (by omega), if_pos (by omega)]; decide
      have e1 : N = bn := by rw [hN]; unfold sgn; rw [if_neg hb, if_neg hl]
      have e2 : U = y - x := by rw [hU]; unfold sab; rw [if_neg hb, if_neg hl]
      subst e1
      have E2 := Lib.hid e2
      have HL : Hid (x ≤ y) := Lib.hid (by omega)
      have HC := Lib.hid (fun W hu hv => rcmp_bel x y u v W hu hv HX.out HY.out)
      generalize cmpN x y = cc at *
      clear hb hN hU e2 hl
      go_enter Try.func67, Try.ntmps67
      go_wp2_with fail
      refine (HC.out _ HU.out HV.out).mono ?_
      rintro _ w1 ⟨rfl, hb1⟩; have hb1s := hb1.size; (try simp only [World.size_alloc, World.size_setCell, World.size_drew, World.heap_drewN] at hb1s); obtain ⟨hb1c, hb1f⟩ := bcell hb1; (try have : w.heap.size < w1.heap.size := by omega); (try have : w.heap.size + 1 < w1.heap.size := by omega); (try have : w.heap.size + 1 + 1 < w1.heap.size := by omega); (try have : w.heap.size + 1 + 1 + 1 < w1.heap.size := by omega)
      go_wp2_with fail
      refine (rless_any y x HL.out _ _ _ (HV.out.below hb1) (HU.out.below hb1) HY.out HX.out).mono ?_
      rintro _ w2 ⟨v2, rfl, d2, hb2⟩; have hb2s := hb2.size; (try simp only [World.size_alloc, World.size_setCell, World.size_drew, World.heap_drewN] at hb2s); obtain ⟨hb2c, hb2f⟩ := bcell hb2; (try have : w.heap.size < w2.heap.size := by omega); (try have : w.heap.size + 1 < w2.heap.size := by omega); (try have : w.heap.size + 1 + 1 < w2.heap.size := by omega); (try have : w.heap.size + 1 + 1 + 1 < w2.heap.size := by omega); have Hd2 := Lib.hid d2; clear d2
      go_wp2_with fail
      go_ret2
      exact ⟨_, rfl, by rw [E2.out]; exact Hd2.out, by (repeat' (first | (with_reducible exact Below.refl _ _) | (with_reducible assumption) | (with_reducible refine Below.drew ?_) | (with_reducible refine below_drewN ?_ _) | ((with_reducible refine Below.alloc ?_ ?_ _); rotate_left; focus (go_size; done)) | ((with_reducible refine Below.setCell ?_ ?_ _); rotate_left; focus (go_size; done)) | ((with_reducible refine Below.trans ?_ (Below.mono (by with_reducible assumption) ?_)); rotate_left; focus (go_size; done))))⟩
end Go.Proofs.Ythkgjodidkpaeaa
