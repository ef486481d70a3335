/- The contracts of the functions that the law reaches, part 4: what each returns and what becomes of memory. -/
import Derived.ProofKit
import Derived.OpenShut
import Derived.Lib.SmallJoins
import Derived.Laws.IdiomArrays
import Derived.ChangeArms
import Derived.WideShapes
import Derived.Test.YthkgjodidkpaeaaM1
import Derived.Test.YthkgjodidkpaeaaM3
set_option linter.unusedSimpArgs false
set_option linter.unusedVariables false
namespace Go.Proofs.Ythkgjodidkpaeaa
open Go.RowKit

def RetFloor (c s : Nat) (w : World) (e : Ending) (w' : World) : Prop := ∃ v, e = .returned (.tuple #[v, .bool (!(decide (c % 10 ^ s = 0)))]) ∧ Dg w' v (c / 10 ^ s) ∧ Below w.heap.size w w'
set_option maxHeartbeats 4000000 in
theorem rfloor_any (b : Bool) (c s : Nat) (hc : c < B34) (hs : s ≤ 18) (w : World) : Calls Try.prog 70 #[.agg #[.bool b, .int .u64 (wd (c) 1), .int .u64 (wd (c) 0), .int .i64 s]] w (RetFloor c s w) := by
  have hc2 : c < 2 ^ 128 := Nat.lt_trans hc B34_lt
  have HO := Lib.hid (fun W => of_any c hc2 W)
  have H1 := Lib.hid (fun W => one_any s (by omega) W)
  have HQ := Lib.hid (fun W u v hu hv => quo_any c (10 ^ s) (Nat.pow_pos (by decide)) u v W hu hv (lt_128_tiny hc2).small (ten_tiny (by omega)).small)
  unfold RetFloor
  unfold RetTwo at HQ
  obtain ⟨z, hz⟩ : ∃ z, z = (!(decide (c % 10 ^ s = 0))) := ⟨_, rfl⟩
  rw [← hz]
  have HZ := Far.mk hz
  generalize c / 10 ^ s = q at *
  generalize c % 10 ^ s = r at *
  generalize 10 ^ s = D at *
  generalize wd c 0 = x0 at *
  generalize wd c 1 = x1 at *
  clear hc hc2 hz
  go_enter Try.func70, Try.ntmps70
  go_wp2_with fail
  go_region_held3 (fun w' => (w'.cell? ⟨w.heap.size, 0, none⟩ = some (.bool b) ∧ w'.cell? ⟨w.heap.size, 1, none⟩ = some (.int .u64 x1) ∧ w'.cell? ⟨w.heap.size, 2, none⟩ = some (.int .u64 x0) ∧ w'.cell? ⟨w.heap.size, 3, none⟩ = some (.int .i64 ((s : Int))))) (first | (first | (go_keep; done) | (simp [go_sem]; done) | ((try dsimp only); (repeat' apply And.intro) <;> (first | (with_reducible assumption) | ((rw [World.cell?_alloc_lt _ _ _ (by show _ < _; omega)]); go_split_ands; (first | with_reducible assumption | (refine (World.cell?_alloc_lt _ _ _ (by show _ < _; omega)).symm.trans ?_; with_reducible assumption))) | ((rw [World.cell?_setCell_other _ _ _ _ (by intro e; injection e; omega)]); with_reducible assumption) | (go_keep; done) | (simp [go_sem]; done) | (simp (disch := go_size) [*, World.cell?_alloc_some, World.cell?_setCell_far]; done)))) | ((refine ⟨Bk.cell (t := 26) (cs := [.bool b, .int .u64 x1, .int .u64 x0, .int .i64 ((s : Int))]) ?_ 0 rfl, Bk.cell (t := 26) (cs := [.bool b, .int .u64 x1, .int .u64 x0, .int .i64 ((s : Int))]) ?_ 1 rfl, Bk.cell (t := 26) (cs := [.bool b, .int .u64 x1, .int .u64 x0, .int .i64 ((s : Int))]) ?_ 2 rfl, Bk.cell (t := 26) (cs := [.bool b, .int .u64 x1, .int .u64 x0, .int .i64 ((s : Int))]) ?_ 3 rfl⟩) <;> ((repeat (first | (with_reducible assumption) | ((with_reducible refine Bk.new_ ?_); (first | rfl | (simp only [World.size_alloc, World.size_setCell, World.size_drew, World.heap_drewN]; done))) | (with_reducible refine Bk.alloc ?_ _) | (with_reducible refine Bk.drew ?_) | (with_reducible refine Bk.drewN ?_ _) | ((with_reducible refine Bk.far ?_ ?_ _); rotate_left; focus (simp only []; omega)) | ((with_reducible refine Bk.below ?_ (by with_reducible assumption) ?_); rotate_left; focus (go_size; done)))); done))) (first | (go_at_call 49; (with_reducible refine (HO.out _).mono ?_); rintro _ w1 ⟨v1, rfl, d1, hb1⟩; have hb1s := hb1.size; (try simp only [World.size_alloc, World.size_setCell, World.size_drew, World.heap_drewN] at hb1s); obtain ⟨hb1c, hb1f⟩ := bcell hb1; (try have : w.heap.size < w1.heap.size := by omega); (try have : w.heap.size + 1 < w1.heap.size := by omega); (try have : w.heap.size + 1 + 1 < w1.heap.size := by omega); (try have : w.heap.size + 1 + 1 + 1 < w1.heap.size := by omega); have Hd1 := Lib.hid d1; clear d1; (try have : w2.heap.size < w1.heap.size := by omega); (try have : w2.heap.size + 1 < w1.heap.size := by omega); (try have : w2.heap.size + 1 + 1 < w1.heap.size := by omega); (try have : w2.heap.size + 1 + 1 + 1 < w1.heap.size := by omega)) | (go_at_call 61; (with_reducible refine (H1.out _).mono ?_); rintro _ w2 ⟨v2, rfl, d2, hb2⟩; have hb2s := hb2.size; (try simp only [World.size_alloc, World.size_setCell, World.size_drew, World.heap_drewN] at hb2s); obtain ⟨hb2c, hb2f⟩ := bcell hb2; (try have : w.heap.size < w2.heap.size := by omega); (try have : w.heap.size + 1 < w2.heap.size := by omega); (try have : w.heap.size + 1 + 1 < w2.heap.size := by omega); (try have : w.heap.size + 1 + 1 + 1 < w2.heap.size := by omega); have Hd2 := Lib.hid d2; clear d2; (try have : w1.heap.size < w2.heap.size := by omega); (try have : w1.heap.size + 1 < w2.heap.size := by omega); (try have : w1.heap.size + 1 + 1 < w2.heap.size := by omega); (try have : w1.heap.size + 1 + 1 + 1 < w2.heap.size := by omega)) | (go_at_call 82; (with_reducible refine (HQ.out _ _ _ ?hx ?hy).mono ?_); (case hx => ((first | exact Hid.out (by assumption) | exact Dg.below (Hid.out (by assumption)) (by (repeat' (first | (with_reducible exact Below.refl _ _) | (with_reducible assumption) | (with_reducible refine Below.drew ?_) | (with_reducible refine below_drewN ?_ _) | ((with_reducible refine Below.alloc ?_ ?_ _); rotate_left; focus (go_size; done)) | ((with_reducible refine Below.setCell ?_ ?_ _); rotate_left; focus (go_size; done)) | ((with_reducible refine Below.trans ?_ (Below.mono (by with_reducible assumption) ?_)); rotate_left; focus (go_size; done)))))))); (case hy => ((first | exact Hid.out (by assumption) | exact Dg.below (Hid.out (by assumption)) (by (repeat' (first | (with_reducible exact Below.refl _ _) | (with_reducible assumption) | (with_reducible refine Below.drew ?_) | (with_reducible refine below_drewN ?_ _) | ((with_reducible refine Below.alloc ?_ ?_ _); rotate_left; focus (go_size; done)) | ((with_reducible refine Below.setCell ?_ ?_ _); rotate_left; focus (go_size; done)) | ((with_reducible refine Below.trans ?_ (Below.mono (by with_reducible assumption) ?_)); rotate_left; focus (go_size; done)))))))); rintro _ w3 ⟨v3, v4, rfl, d3, d4, hb3⟩; have hb3s := hb3.size; have Hd3 := Lib.hid d3; have Hd4 := Lib.hid d4; clear d3 d4; (try simp only [World.size_alloc, World.size_setCell, World.size_drew, World.heap_drewN] at hb3s); obtain ⟨hb3c, hb3f⟩ := bcell hb3; (try have : w1.heap.size < w3.heap.size := by omega); (try have : w1.heap.size + 1 < w3.heap.size := by omega); (try have : w1.heap.size + 1 + 1 < w3.heap.size := by omega); (try have : w1.heap.size + 1 + 1 + 1 < w3.heap.size := by omega); (try have : w2.heap.size < w3.heap.size := by omega); (try have : w2.heap.size + 1 < w3.heap.size := by omega); (try have : w2.heap.size + 1 + 1 < w3.heap.size := by omega); (try have : w2.heap.size + 1 + 1 + 1 < w3.heap.size := by omega)))
  all_goals
    obtain ⟨A, k, c', rfl, hk, hkc⟩ := dg_len Hd4.out
    have hk2 : z = decide (0 < k) := by
      rw [HZ.out, Bool.eq_iff_iff]
      simp only [Bool.not_eq_true', decide_eq_false_iff_not, decide_eq_true_eq]
      omega
    have HK2 := Lib.hid hk2
    clear hk hk2
    go_wp2_with fail
    go_ret2
    exact ⟨v3, by rw [HK2.out]; rfl, Hd3.out.below (by (repeat' (first | (with_reducible exact Below.refl _ _) | (with_reducible assumption) | (with_reducible refine Below.drew ?_) | (with_reducible refine below_drewN ?_ _) | ((with_reducible refine Below.alloc ?_ ?_ _); rotate_left; focus (go_size; done)) | ((with_reducible refine Below.setCell ?_ ?_ _); rotate_left; focus (go_size; done)) | ((with_reducible refine Below.trans ?_ (Below.mono (by with_reducible assumption) ?_)); rotate_left; focus (go_size; done))))), by (repeat' (first | (with_reducible exact Below.refl _ _) | (with_reducible assumption) | (with_reducible refine Below.drew ?_) | (with_reducible refine below_drewN ?_ _) | ((with_reducible refine Below.alloc ?_ ?_ _); rotate_left; focus (go_size; done)) | ((with_reducible refine Below.setCell ?_ ?_ _); rotate_left; focus (go_size; done)) | ((with_reducible refine Below.trans ?_ (Below.mono (by with_reducible assumption) ?_)); rotate_left; focus (go_size; done))))⟩
set_option maxHeartbeats 2000000 in
theorem docfloor_bad (b : Bool) (c : Nat) (s : Int) (hc : c < 2 ^ 128) (h : dform b c s = false) (w : World) : Calls Try.prog 34 #[.agg #[.bool b, .int .u64 (wd (c) 1), .int .u64 (wd (c) 0), .int .i64 s]] w fun e w' => e = .returned (.tuple #[.agg #[.bool false, .int .u64 0, .int .u64 0, .int .i64 0], .int .i64 2]) ∧ Below w.heap.size w w' := by
  have HF := Lib.hid (fun W => rform_any b c s hc W)
  rw [h] at HF
  generalize wd c 0 = x0 at *
  generalize wd c 1 = x1 at *
  clear hc h
  go_enter Try.func34, Try.ntmps34
  go_wp2_with fail
  refine (HF.out _).mono ?_
  rintro _ w1 ⟨rfl, hb1⟩; have hb1s := hb1.size; (try simp only [World.size_alloc, World.size_setCell, World.size_drew, World.heap_drewN] at hb1s); obtain ⟨hb1c, hb1f⟩ := bcell hb1; (try have : w.heap.size < w1.heap.size := by omega); (try have : w.heap.size + 1 < w1.heap.size := by omega); (try have : w.heap.size + 1 + 1 < w1.heap.size := by omega); (try have : w.heap.size + 1 + 1 + 1 < w1.heap.size := by omega)
  have r0 : Bk w1 (w.heap.size + 1) 26 [.bool false, .int .u64 0, .int .u64 0, .int .i64 0] := by (repeat (first | (with_reducible assumption) | ((with_reducible refine Bk.new_ ?_); (first | rfl | (simp only [World.size_alloc, World.size_setCell, World.size_drew, World.heap_drewN]; done))) | (with_reducible refine Bk.alloc ?_ _) | (with_reducible refine Bk.drew ?_) | (with_reducible refine Bk.drewN ?_ _) | ((with_reducible refine Bk.far ?_ ?_ _); rotate_left; focus (simp only []; omega)) | ((with_reducible refine Bk.below ?_ (by with_reducible assumption) ?_); rotate_left; focus (go_size; done))))
  have r0_0 := r0.cell 0 rfl
  have r0_1 := r0.cell 1 rfl
  have r0_2 := r0.cell 2 rfl
  have r0_3 := r0.cell 3 rfl
  have r0_4 := r0.frozen 0
  have r0_5 := r0.frozen 1
  have r0_6 := r0.frozen 2
  have r0_7 := r0.frozen 3
  have r0l := r0.lt
  clear hb1c hb1f r0
  go_wp2_with fail
  refine bodyPost_ret (by simp [results, Try.results34, go_sem, *]; try rfl) rfl ?_
  exact ⟨rfl, by (repeat' (first | (with_reducible exact Below.refl _ _) | (with_reducible assumption) | (with_reducible refine Below.drew ?_) | (with_reducible refine below_drewN ?_ _) | ((with_reducible refine Below.alloc ?_ ?_ _); rotate_left; focus (go_size; done)) | ((with_reducible refine Below.setCell ?_ ?_ _); rotate_left; focus (go_size; done)) | ((with_reducible refine Below.trans ?_ (Below.mono (by with_reducible assumption) ?_)); rotate_left; focus (go_size; done))))⟩
set_option maxHeartbeats 2000000 in
theorem docceil_bad (b : Bool) (c : Nat) (s : Int) (hc : c < 2 ^ 128) (h : dform b c s = false) (w : World) : Calls Try.prog 36 #[.agg #[.bool b, .int .u64 (wd (c) 1), .int .u64 (wd (c) 0), .int .i64 s]] w fun e w' => e = .returned (.tuple #[.agg #[.bool false, .int .u64 0, .int .u64 0, .int .i64 0], .int .i64 2]) ∧ Below w.heap.size w w' := by
  have HF := Lib.hid (fun W => rform_any b c s hc W)
  rw [h] at HF
  generalize wd c 0 = x0 at *
  generalize wd c 1 = x1 at *
  clear hc h
  go_enter Try.func36, Try.ntmps36
  go_wp2_with fail
  refine (HF.out _).mono ?_
  rintro _ w1 ⟨rfl, hb1⟩; have hb1s := hb1.size; (try simp only [World.size_alloc, World.size_setCell, World.size_drew, World.heap_drewN] at hb1s); obtain ⟨hb1c, hb1f⟩ := bcell hb1; (try have : w.heap.size < w1.heap.size := by omega); (try have : w.heap.size + 1 < w1.heap.size := by omega); (try have : w.heap.size + 1 + 1 < w1.heap.size := by omega); (try have : w.heap.size + 1 + 1 + 1 < w1.heap.size := by omega)
  have r0 : Bk w1 (w.heap.size + 1) 26 [.bool false, .int .u64 0, .int .u64 0, .int .i64 0] := by (repeat (first | (with_reducible assumption) | ((with_reducible refine Bk.new_ ?_); (first | rfl | (simp only [World.size_alloc, World.size_setCell, World.size_drew, World.heap_drewN]; done))) | (with_reducible refine Bk.alloc ?_ _) | (with_reducible refine Bk.drew ?_) | (with_reducible refine Bk.drewN ?_ _) | ((with_reducible refine Bk.far ?_ ?_ _); rotate_left; focus (simp only []; omega)) | ((with_reducible refine Bk.below ?_ (by with_reducible assumption) ?_); rotate_left; focus (go_size; done))))
  have r0_0 := r0.cell 0 rfl
  have r0_1 := r0.cell 1 rfl
  have r0_2 := r0.cell 2 rfl
  have r0_3 := r0.cell 3 rfl
  have r0_4 := r0.frozen 0
  have r0_5 := r0.frozen 1
  have r0_6 := r0.frozen 2
  have r0_7 := r0.frozen 3
  have r0l := r0.lt
  clear hb1c hb1f r0
  go_wp2_with fail
  refine bodyPost_ret (by simp [results, Try.results36, go_sem, *]; try rfl) rfl ?_
  exact ⟨rfl, by (repeat' (first | (with_reducible exact Below.refl _ _) | (with_reducible assumption) | (with_reducible refine Below.drew ?_) | (with_reducible refine below_drewN ?_ _) | ((with_reducible refine Below.alloc ?_ ?_ _); rotate_left; focus (go_size; done)) | ((with_reducible refine Below.setCell ?_ ?_ _); rotate_left; focus (go_size; done)) | ((with_reducible refine Below.trans ?_ (Below.mono (by with_reducible assumption) ?_)); rotate_left; focus (go_size; done))))⟩
theorem wholeV_floor {c s : Nat} {b : Bool} (h : ((!(decide (c % 10 ^ s = 0))) && b) = true) : wholeV c s b = c / 10 ^ s + 1 := by
  rw [Bool.and_eq_true] at h
  obtain ⟨h1, rfl⟩ := h
  exact wholeV_up (by simpa using h1)
theorem wholeV_floor' {c s : Nat} {b : Bool} (h : ((!(decide (c % 10 ^ s = 0))) && b) = false) : wholeV c s b = c / 10 ^ s := by
  rw [Bool.and_eq_false_iff] at h
  refine wholeV_flat ?_
  rcases h with h | h
  · right; simpa using h
  · exact .inl h
set_option maxHeartbeats 4000000 in
theorem docfloor_ok (b : Bool) (c s : Nat) (hc : c < B34) (hs : s ≤ 18) (h : dform b c s = true) (w : World) : Calls Try.prog 34 #[.agg #[.bool b, .int .u64 (wd (c) 1), .int .u64 (wd (c) 0), .int .i64 s]] w fun e w' => e = .returned (.tuple #[.agg #[.bool (sg b (wholeV c s b)), .int .u64 (wd ((wholeV c s b)) 1), .int .u64 (wd ((wholeV c s b)) 0), .int .i64 0], .int .i64 0]) ∧ Below w.heap.size w w' := by
  have HF := Lib.hid (fun W => rform_any b c s (Nat.lt_trans hc B34_lt) W)
  rw [h] at HF
  have HW := Lib.hid (fun W => rfloor_any b c s hc hs W)
  unfold RetFloor at HW
  have hV := wholeV_lt (s := s) b hc
  have HM : Hid (∀ W v, Dg W v (wholeV c s b) → Calls Try.prog 58 #[.bool b, v, .int .i64 0] W fun e w' => e = .returned (.agg #[.bool (sg b (wholeV c s b)), .int .u64 (wd ((wholeV c s b)) 1), .int .u64 (wd ((wholeV c s b)) 0), .int .i64 0]) ∧ Below W.heap.size W w') := Lib.hid (fun W v hv => make1_any b (wholeV c s b) 0 v W hv hV (by decide))
  have hqs : Tiny (c / 10 ^ s) := (lt_128_tiny (Nat.lt_trans hc B34_lt)).of_le (Nat.div_le_self _ _)
  have HP := Lib.hid (fun W u v hu hv => plus_any (c / 10 ^ s) 1 u v W hu hv hqs.small small_one)
  have h1 := Far.mk (wholeV_floor (c := c) (s := s) (b := b))
  have h2 := Far.mk (wholeV_floor' (c := c) (s := s) (b := b))
  generalize (!(decide (c % 10 ^ s = 0))) = z at *
  generalize c / 10 ^ s = q at *
  generalize wholeV c s b = V at *
  generalize sg b V = sb at *
  generalize wd V 0 = V0 at *
  generalize wd V 1 = V1 at *
  generalize wd c 0 = x0 at *
  generalize wd c 1 = x1 at *
  clear hc h hV hqs
  cases z
  · have e : V = q := h2.out (by simp)
    subst e
    clear h1 h2
    go_enter Try.func34, Try.ntmps34
    go_wp2_with fail
    refine (HF.out _).mono ?_
    rintro _ w1 ⟨rfl, hb1⟩; have hb1s := hb1.size; (try simp only [World.size_alloc, World.size_setCell, World.size_drew, World.heap_drewN] at hb1s); obtain ⟨hb1c, hb1f⟩ := bcell hb1; (try have : w.heap.size < w1.heap.size := by omega); (try have : w.heap.size + 1 < w1.heap.size := by omega); (try have : w.heap.size + 1 + 1 < w1.heap.size := by omega); (try have : w.heap.size + 1 + 1 + 1 < w1.heap.size := by omega)
    have k0 : Bk w1 (w.heap.size) 26 [.bool b, .int .u64 x1, .int .u64 x0, .int .i64 (s : Int)] := by (repeat (first | (with_reducible assumption) | ((with_reducible refine Bk.new_ ?_); (first | rfl | (simp only [World.size_alloc, World.size_setCell, World.size_drew, World.heap_drewN]; done))) | (with_reducible refine Bk.alloc ?_ _) | (with_reducible refine Bk.drew ?_) | (with_reducible refine Bk.drewN ?_ _) | ((with_reducible refine Bk.far ?_ ?_ _); rotate_left; focus (simp only []; omega)) | ((with_reducible refine Bk.below ?_ (by with_reducible assumption) ?_); rotate_left; focus (go_size; done))))
    have k0_0 := k0.cell 0 rfl
    have k0_1 := k0.cell 1 rfl
    have k0_2 := k0.cell 2 rfl
    have k0_3 := k0.cell 3 rfl
    have k0_4 := k0.frozen 0
    have k0_5 := k0.frozen 1
    have k0_6 := k0.frozen 2
    have k0_7 := k0.frozen 3
    have k0l := k0.lt
    have r0 : Bk w1 (w.heap.size + 1) 26 [.bool false, .int .u64 0, .int .u64 0, .int .i64 0] := by (repeat (first | (with_reducible assumption) | ((with_reducible refine Bk.new_ ?_); (first | rfl | (simp only [World.size_alloc, World.size_setCell, World.size_drew, World.heap_drewN]; done))) | (with_reducible refine Bk.alloc ?_ _) | (with_reducible refine Bk.drew ?_) | (with_reducible refine Bk.drewN ?_ _) | ((with_reducible refine Bk.far ?_ ?_ _); rotate_left; focus (simp only []; omega)) | ((with_reducible refine Bk.below ?_ (by with_reducible assumption) ?_); rotate_left; focus (go_size; done))))
    have r0_0 := r0.cell 0 rfl
    have r0_1 := r0.cell 1 rfl
    have r0_2 := r0.cell 2 rfl
    have r0_3 := r0.cell 3 rfl
    have r0_4 := r0.frozen 0
    have r0_5 := r0.frozen 1
    have r0_6 := r0.frozen 2
    have r0_7 := r0.frozen 3
    have r0l := r0.lt
    clear hb1c hb1f
    go_wp2_with fail
    refine (HW.out _).mono ?_
    rintro _ w2 ⟨v2, rfl, d2, hb2⟩
    have hb2s := hb2.size
    have Hd2 := Lib.hid d2
    clear d2
    have ka : Bk w2 w.heap.size 26 [.bool b, .int .u64 x1, .int .u64 x0, .int .i64 (s : Int)] := by (repeat (first | (with_reducible assumption) | ((with_reducible refine Bk.new_ ?_); (first | rfl | (simp only [World.size_alloc, World.size_setCell, World.size_drew, World.heap_drewN]; done))) | (with_reducible refine Bk.alloc ?_ _) | (with_reducible refine Bk.drew ?_) | (with_reducible refine Bk.drewN ?_ _) | ((with_reducible refine Bk.far ?_ ?_ _); rotate_left; focus (simp only []; omega)) | ((with_reducible refine Bk.below ?_ (by with_reducible assumption) ?_); rotate_left; focus (go_size; done))))
    have kr : Bk w2 (w.heap.size + 1) 26 [.bool false, .int .u64 0, .int .u64 0, .int .i64 0] := by (repeat (first | (with_reducible assumption) | ((with_reducible refine Bk.new_ ?_); (first | rfl | (simp only [World.size_alloc, World.size_setCell, World.size_drew, World.heap_drewN]; done))) | (with_reducible refine Bk.alloc ?_ _) | (with_reducible refine Bk.drew ?_) | (with_reducible refine Bk.drewN ?_ _) | ((with_reducible refine Bk.far ?_ ?_ _); rotate_left; focus (simp only []; omega)) | ((with_reducible refine Bk.below ?_ (by with_reducible assumption) ?_); rotate_left; focus (go_size; done))))
    have kal := ka.lt
    have krl := kr.lt
    clear k0_0 k0_1 k0_2 k0_3 k0_4 k0_5 k0_6 k0_7
    clear r0_0 r0_1 r0_2 r0_3 r0_4 r0_5 r0_6 r0_7
    have ka_0 := ka.cell 0 rfl
    have ka_1 := ka.cell 1 rfl
    have ka_2 := ka.cell 2 rfl
    have ka_3 := ka.cell 3 rfl
    have ka_4 := ka.frozen 0
    have ka_5 := ka.frozen 1
    have ka_6 := ka.frozen 2
    have ka_7 := ka.frozen 3
    go_wp2_with fail
    refine (HM.out _ _ (Hd2.out.below (by (repeat' (first | (with_reducible exact Below.refl _ _) | (with_reducible assumption) | (with_reducible refine Below.drew ?_) | (with_reducible refine below_drewN ?_ _) | ((with_reducible refine Below.alloc ?_ ?_ _); rotate_left; focus (go_size; done)) | ((with_reducible refine Below.setCell ?_ ?_ _); rotate_left; focus (go_size; done)) | ((with_reducible refine Below.trans ?_ (Below.mono (by with_reducible assumption) ?_)); rotate_left; focus (go_size; done))))))).mono ?_
    rintro _ w4 ⟨rfl, hb4⟩; have hb4s := hb4.size; (try simp only [World.size_alloc, World.size_setCell, World.size_drew, World.heap_drewN] at hb4s); obtain ⟨hb4c, hb4f⟩ := bcell hb4; (try have : w.heap.size < w4.heap.size := by omega); (try have : w.heap.size + 1 < w4.heap.size := by omega); (try have : w.heap.size + 1 + 1 < w4.heap.size := by omega); (try have : w.heap.size + 1 + 1 + 1 < w4.heap.size := by omega)
    have mr : Bk w4 (w.heap.size + 1) 26 [.bool false, .int .u64 0, .int .u64 0, .int .i64 0] := by (repeat (first | (with_reducible assumption) | ((with_reducible refine Bk.new_ ?_); (first | rfl | (simp only [World.size_alloc, World.size_setCell, World.size_drew, World.heap_drewN]; done))) | (with_reducible refine Bk.alloc ?_ _) | (with_reducible refine Bk.drew ?_) | (with_reducible refine Bk.drewN ?_ _) | ((with_reducible refine Bk.far ?_ ?_ _); rotate_left; focus (simp only []; omega)) | ((with_reducible refine Bk.below ?_ (by with_reducible assumption) ?_); rotate_left; focus (go_size; done))))
    have mr_0 := mr.cell 0 rfl
    have mr_1 := mr.cell 1 rfl
    have mr_2 := mr.cell 2 rfl
    have mr_3 := mr.cell 3 rfl
    have mr_4 := mr.frozen 0
    have mr_5 := mr.frozen 1
    have mr_6 := mr.frozen 2
    have mr_7 := mr.frozen 3
    clear hb4c hb4f
    go_wp2_with fail
    refine bodyPost_ret (by simp [results, Try.results34, go_sem, *]; try rfl) rfl ?_
    exact ⟨rfl, by (repeat' (first | (with_reducible exact Below.refl _ _) | (with_reducible assumption) | (with_reducible refine Below.drew ?_) | (with_reducible refine below_drewN ?_ _) | ((with_reducible refine Below.alloc ?_ ?_ _); rotate_left; focus (go_size; done)) | ((with_reducible refine Below.setCell ?_ ?_ _); rotate_left; focus (go_size; done)) | ((with_reducible refine Below.trans ?_ (Below.mono (by with_reducible assumption) ?_)); rotate_left; focus (go_size; done))))⟩
  · cases b
    · have e : V = q := h2.out (by simp)
      subst e
      clear h1 h2
      go_enter Try.func34, Try.ntmps34
      go_wp2_with fail
      refine (HF.out _).mono ?_
      rintro _ w1 ⟨rfl, hb1⟩; have hb1s := hb1.size; (try simp only [World.size_alloc, World.size_setCell, World.size_drew, World.heap_drewN] at hb1s); obtain ⟨hb1c, hb1f⟩ := bcell hb1; (try have : w.heap.size < w1.heap.size := by omega); (try have : w.heap.size + 1 < w1.heap.size := by omega); (try have : w.heap.size + 1 + 1 < w1.heap.size := by omega); (try have : w.heap.size + 1 + 1 + 1 < w1.heap.size := by omega)
      have k0 : Bk w1 (w.heap.size) 26 [.bool false, .int .u64 x1, .int .u64 x0, .int .i64 (s : Int)] := by (repeat (first | (with_reducible assumption) | ((with_reducible refine Bk.new_ ?_); (first | rfl | (simp only [World.size_alloc, World.size_setCell, World.size_drew, World.heap_drewN]; done))) | (with_reducible refine Bk.alloc ?_ _) | (with_reducible refine Bk.drew ?_) | (with_reducible refine Bk.drewN ?_ _) | ((with_reducible refine Bk.far ?_ ?_ _); rotate_left; focus (simp only []; omega)) | ((with_reducible refine Bk.below ?_ (by with_reducible assumption) ?_); rotate_left; focus (go_size; done))))
      have k0_0 := k0.cell 0 rfl
      have k0_1 := k0.cell 1 rfl
      have k0_2 := k0.cell 2 rfl
      have k0_3 := k0.cell 3 rfl
      have k0_4 := k0.frozen 0
      have k0_5 := k0.frozen 1
      have k0_6 := k0.frozen 2
      have k0_7 := k0.frozen 3
      have k0l := k0.lt
      have r0 : Bk w1 (w.heap.size + 1) 26 [.bool false, .int .u64 0, .int .u64 0, .int .i64 0] := by (repeat (first | (with_reducible assumption) | ((with_reducible refine Bk.new_ ?_); (first | rfl | (simp only [World.size_alloc, World.size_setCell, World.size_drew, World.heap_drewN]; done))) | (with_reducible refine Bk.alloc ?_ _) | (with_reducible refine Bk.drew ?_) | (with_reducible refine Bk.drewN ?_ _) | ((with_reducible refine Bk.far ?_ ?_ _); rotate_left; focus (simp only []; omega)) | ((with_reducible refine Bk.below ?_ (by with_reducible assumption) ?_); rotate_left; focus (go_size; done))))
      have r0_0 := r0.cell 0 rfl
      have r0_1 := r0.cell 1 rfl
      have r0_2 := r0.cell 2 rfl
      have r0_3 := r0.cell 3 rfl
      have r0_4 := r0.frozen 0
      have r0_5 := r0.frozen 1
      have r0_6 := r0.frozen 2
      have r0_7 := r0.frozen 3
      have r0l := r0.lt
      clear hb1c hb1f
      go_wp2_with fail
      refine (HW.out _).mono ?_
      rintro _ w2 ⟨v2, rfl, d2, hb2⟩
      have hb2s := hb2.size
      have Hd2 := Lib.hid d2
      clear d2
      have ka : Bk w2 w.heap.size 26 [.bool false, .int .u64 x1, .int .u64 x0, .int .i64 (s : Int)] := by (repeat (first | (with_reducible assumption) | ((with_reducible refine Bk.new_ ?_); (first | rfl | (simp only [World.size_alloc, World.size_setCell, World.size_drew, World.heap_drewN]; done))) | (with_reducible refine Bk.alloc ?_ _) | (with_reducible refine Bk.drew ?_) | (with_reducible refine Bk.drewN ?_ _) | ((with_reducible refine Bk.far ?_ ?_ _); rotate_left; focus (simp only []; omega)) | ((with_reducible refine Bk.below ?_ (by with_reducible assumption) ?_); rotate_left; focus (go_size; done))))
      have kr : Bk w2 (w.heap.size + 1) 26 [.bool false, .int .u64 0, .int .u64 0, .int .i64 0] := by (repeat (first | (with_reducible assumption) | ((with_reducible refine Bk.new_ ?_); (first | rfl | (simp only [World.size_alloc, World.size_setCell, World.size_drew, World.heap_drewN]; done))) | (with_reducible refine Bk.alloc ?_ _) | (with_reducible refine Bk.drew ?_) | (with_reducible refine Bk.drewN ?_ _) | ((with_reducible refine Bk.far ?_ ?_ _); rotate_left; focus (simp only []; omega)) | ((with_reducible refine Bk.below ?_ (by with_reducible assumption) ?_); rotate_left; focus (go_size; done))))
      have kal := ka.lt
      have krl := kr.lt
      clear k0_0 k0_1 k0_2 k0_3 k0_4 k0_5 k0_6 k0_7
      clear r0_0 r0_1 r0_2 r0_3 r0_4 r0_5 r0_6 r0_7
      have ka_0 := ka.cell 0 rfl
      have ka_1 := ka.cell 1 rfl
      have ka_2 := ka.cell 2 rfl
      have ka_3 := ka.cell 3 rfl
      have ka_4 := ka.frozen 0
      have ka_5 := ka.frozen 1
      have ka_6 := ka.frozen 2
      have ka_7 := ka.frozen 3
      go_wp2_with fail
      refine (HM.out _ _ (Hd2.out.below (by (repeat' (first | (with_reducible exact Below.refl _ _) | (with_reducible assumption) | (with_reducible refine Below.drew ?_) | (with_reducible refine below_drewN ?_ _) | ((with_reducible refine Below.alloc ?_ ?_ _); rotate_left; focus (go_size; done)) | ((with_reducible refine Below.setCell ?_ ?_ _); rotate_left; focus (go_size; done)) | ((with_reducible refine Below.trans ?_ (Below.mono (by with_reducible assumption) ?_)); rotate_left; focus (go_size; done))))))).mono ?_
      rintro _ w4 ⟨rfl, hb4⟩; have hb4s := hb4.size; (try simp only [World.size_alloc, World.size_setCell, World.size_drew, World.heap_drewN] at hb4s); obtain ⟨hb4c, hb4f⟩ := bcell hb4; (try have : w.heap.size < w4.heap.size := by omega); (try have : w.heap.size + 1 < w4.heap.size := by omega); (try have : w.heap.size + 1 + 1 < w4.heap.size := by omega); (try have : w.heap.size + 1 + 1 + 1 < w4.heap.size := by omega)
      have mr : Bk w4 (w.heap.size + 1) 26 [.bool false, .int .u64 0, .int .u64 0, .int .i64 0] := by (repeat (first | (with_reducible assumption) | ((with_reducible refine Bk.new_ ?_); (first | rfl | (simp only [World.size_alloc, World.size_setCell, World.size_drew, World.heap_drewN]; done))) | (with_reducible refine Bk.alloc ?_ _) | (with_reducible refine Bk.drew ?_) | (with_reducible refine Bk.drewN ?_ _) | ((with_reducible refine Bk.far ?_ ?_ _); rotate_left; focus (simp only []; omega)) | ((with_reducible refine Bk.below ?_ (by with_reducible assumption) ?_); rotate_left; focus (go_size; done))))
      have mr_0 := mr.cell 0 rfl
      have mr_1 := mr.cell 1 rfl
      have mr_2 := mr.cell 2 rfl
      have mr_3 := mr.cell 3 rfl
      have mr_4 := mr.frozen 0
      have mr_5 := mr.frozen 1
      have mr_6 := mr.frozen 2
      have mr_7 := mr.frozen 3
      clear hb4c hb4f
      go_wp2_with fail
      refine bodyPost_ret (by simp [results, Try.results34, go_sem, *]; try rfl) rfl ?_
      exact ⟨rfl, by (repeat' (first | (with_reducible exact Below.refl _ _) | (with_reducible assumption) | (with_reducible refine Below.drew ?_) | (with_reducible refine below_drewN ?_ _) | ((with_reducible refine Below.alloc ?_ ?_ _); rotate_left; focus (go_size; done)) | ((with_reducible refine Below.setCell ?_ ?_ _); rotate_left; focus (go_size; done)) | ((with_reducible refine Below.trans ?_ (Below.mono (by with_reducible assumption) ?_)); rotate_left; focus (go_size; done))))⟩
    · have e : V = q + 1 := h1.out rfl
      have E := Lib.hid e
      clear h1 h2 e
      go_enter Try.func34, Try.ntmps34
      go_wp2_with fail
      refine (HF.out _).mono ?_
      rintro _ w1 ⟨rfl, hb1⟩; have hb1s := hb1.size; (try simp only [World.size_alloc, World.size_setCell, World.size_drew, World.heap_drewN] at hb1s); obtain ⟨hb1c, hb1f⟩ := bcell hb1; (try have : w.heap.size < w1.heap.size := by omega); (try have : w.heap.size + 1 < w1.heap.size := by omega); (try have : w.heap.size + 1 + 1 < w1.heap.size := by omega); (try have : w.heap.size + 1 + 1 + 1 < w1.heap.size := by omega)
      have k0 : Bk w1 (w.heap.size) 26 [.bool true, .int .u64 x1, .int .u64 x0, .int .i64 (s : Int)] := by (repeat (first | (with_reducible assumption) | ((with_reducible refine Bk.new_ ?_); (first | rfl | (simp only [World.size_alloc, World.size_setCell, World.size_drew, World.heap_drewN]; done))) | (with_reducible refine Bk.alloc ?_ _) | (with_reducible refine Bk.drew ?_) | (with_reducible refine Bk.drewN ?_ _) | ((with_reducible refine Bk.far ?_ ?_ _); rotate_left; focus (simp only []; omega)) | ((with_reducible refine Bk.below ?_ (by with_reducible assumption) ?_); rotate_left; focus (go_size; done))))
      have k0_0 := k0.cell 0 rfl
      have k0_1 := k0.cell 1 rfl
      have k0_2 := k0.cell 2 rfl
      have k0_3 := k0.cell 3 rfl
      have k0_4 := k0.frozen 0
      have k0_5 := k0.frozen 1
      have k0_6 := k0.frozen 2
      have k0_7 := k0.frozen 3
      have k0l := k0.lt
      have r0 : Bk w1 (w.heap.size + 1) 26 [.bool false, .int .u64 0, .int .u64 0, .int .i64 0] := by (repeat (first | (with_reducible assumption) | ((with_reducible refine Bk.new_ ?_); (first | rfl | (simp only [World.size_alloc, World.size_setCell, World.size_drew, World.heap_drewN]; done))) | (with_reducible refine Bk.alloc ?_ _) | (with_reducible refine Bk.drew ?_) | (with_reducible refine Bk.drewN ?_ _) | ((with_reducible refine Bk.far ?_ ?_ _); rotate_left; focus (simp only []; omega)) | ((with_reducible refine Bk.below ?_ (by with_reducible assumption) ?_); rotate_left; focus (go_size; done))))
      have r0_0 := r0.cell 0 rfl
      have r0_1 := r0.cell 1 rfl
      have r0_2 := r0.cell 2 rfl
      have r0_3 := r0.cell 3 rfl
      have r0_4 := r0.frozen 0
      have r0_5 := r0.frozen 1
      have r0_6 := r0.frozen 2
      have r0_7 := r0.frozen 3
      have r0l := r0.lt
      clear hb1c hb1f
      go_wp2_with fail
      refine (HW.out _).mono ?_
      rintro _ w2 ⟨v2, rfl, d2, hb2⟩
      have hb2s := hb2.size
      have Hd2 := Lib.hid d2
      clear d2
      have ka : Bk w2 w.heap.size 26 [.bool true, .int .u64 x1, .int .u64 x0, .int .i64 (s : Int)] := by (repeat (first | (with_reducible assumption) | ((with_reducible refine Bk.new_ ?_); (first | rfl | (simp only [World.size_alloc, World.size_setCell, World.size_drew, World.heap_drewN]; done))) | (with_reducible refine Bk.alloc ?_ _) | (with_reducible refine Bk.drew ?_) | (with_reducible refine Bk.drewN ?_ _) | ((with_reducible refine Bk.far ?_ ?_ _); rotate_left; focus (simp only []; omega)) | ((with_reducible refine Bk.below ?_ (by with_reducible assumption) ?_); rotate_left; focus (go_size; done))))
      have kr : Bk w2 (w.heap.size + 1) 26 [.bool false, .int .u64 0, .int .u64 0, .int .i64 0] := by (repeat (first | (with_reducible assumption) | ((with_reducible refine Bk.new_ ?_); (first | rfl | (simp only [World.size_alloc, World.size_setCell, World.size_drew, World.heap_drewN]; done))) | (with_reducible refine Bk.alloc ?_ _) | (with_reducible refine Bk.drew ?_) | (with_reducible refine Bk.drewN ?_ _) | ((with_reducible refine Bk.far ?_ ?_ _); rotate_left; focus (simp only []; omega)) | ((with_reducible refine Bk.below ?_ (by with_reducible assumption) ?_); rotate_left; focus (go_size; done))))
      have kal := ka.lt
      have krl := kr.lt
      clear k0_0 k0_1 k0_2 k0_3 k0_4 k0_5 k0_6 k0_7
      clear r0_0 r0_1 r0_2 r0_3 r0_4 r0_5 r0_6 r0_7
      have ka_0 := ka.cell 0 rfl
      have ka_1 := ka.cell 1 rfl
      have ka_2 := ka.cell 2 rfl
      have ka_3 := ka.cell 3 rfl
      have ka_4 := ka.frozen 0
      have ka_5 := ka.frozen 1
      have ka_6 := ka.frozen 2
      have ka_7 := ka.frozen 3
      go_wp2_with fail
      refine (HP.out _ _ _ (Hd2.out.below (by (repeat' (first | (with_reducible exact Below.refl _ _) | (with_reducible assumption) | (with_reducible refine Below.drew ?_) | (with_reducible refine below_drewN ?_ _) | ((with_reducible refine Below.alloc ?_ ?_ _); rotate_left; focus (go_size; done)) | ((with_reducible refine Below.setCell ?_ ?_ _); rotate_left; focus (go_size; done)) | ((with_reducible refine Below.trans ?_ (Below.mono (by with_reducible assumption) ?_)); rotate_left; focus (go_size; done)))))) (dg_one (Bk.new_ rfl))).mono ?_
      rintro _ w3 ⟨v3, rfl, d3, hb3⟩; have hb3s := hb3.size; (try simp only [World.size_alloc, World.size_setCell, World.size_drew, World.heap_drewN] at hb3s); obtain ⟨hb3c, hb3f⟩ := bcell hb3; (try have : w.heap.size < w3.heap.size := by omega); (try have : w.heap.size + 1 < w3.heap.size := by omega); (try have : w.heap.size + 1 + 1 < w3.heap.size := by omega); (try have : w.heap.size + 1 + 1 + 1 < w3.heap.size := by omega); have Hd3 := Lib.hid d3; clear d3
      have ja : Bk w3 w.heap.size 26 [.bool true, .int .u64 x1, .int .u64 x0, .int .i64 (s : Int)] := by (repeat (first | (with_reducible assumption) | ((with_reducible refine Bk.new_ ?_); (first | rfl | (simp only [World.size_alloc, World.size_setCell, World.size_drew, World.heap_drewN]; done))) | (with_reducible refine Bk.alloc ?_ _) | (with_reducible refine Bk.drew ?_) | (with_reducible refine Bk.drewN ?_ _) | ((with_reducible refine Bk.far ?_ ?_ _); rotate_left; focus (simp only []; omega)) | ((with_reducible refine Bk.below ?_ (by with_reducible assumption) ?_); rotate_left; focus (go_size; done))))
      have jr : Bk w3 (w.heap.size + 1) 26 [.bool false, .int .u64 0, .int .u64 0, .int .i64 0] := by (repeat (first | (with_reducible assumption) | ((with_reducible refine Bk.new_ ?_); (first | rfl | (simp only [World.size_alloc, World.size_setCell, World.size_drew, World.heap_drewN]; done))) | (with_reducible refine Bk.alloc ?_ _) | (with_reducible refine Bk.drew ?_) | (with_reducible refine Bk.drewN ?_ _) | ((with_reducible refine Bk.far ?_ ?_ _); rotate_left; focus (simp only []; omega)) | ((with_reducible refine Bk.below ?_ (by with_reducible assumption) ?_); rotate_left; focus (go_size; done))))
      have jrl := jr.lt
      clear ka_0 ka_1 ka_2 ka_3 ka_4 ka_5 ka_6 ka_7
      have ja_0 := ja.cell 0 rfl
      have ja_1 := ja.cell 1 rfl
      have ja_2 := ja.cell 2 rfl
      have ja_3 := ja.cell 3 rfl
      have ja_4 := ja.frozen 0
      have ja_5 := ja.frozen 1
      have ja_6 := ja.frozen 2
      have ja_7 := ja.frozen 3
      clear hb3c hb3f
      go_wp2_with fail
      refine (HM.out _ _ (by rw [E.out]; exact Hd3.out)).mono ?_
      rintro _ w4 ⟨rfl, hb4⟩; have hb4s := hb4.size; (try simp only [World.size_alloc, World.size_setCell, World.size_drew, World.heap_drewN] at hb4s); obtain ⟨hb4c, hb4f⟩ := bcell hb4; (try have : w.heap.size < w4.heap.size := by omega); (try have : w.heap.size + 1 < w4.heap.size := by omega); (try have : w.heap.size + 1 + 1 < w4.heap.size := by omega); (try have : w.heap.size + 1 + 1 + 1 < w4.heap.size := by omega)
      have mr : Bk w4 (w.heap.size + 1) 26 [.bool false, .int .u64 0, .int .u64 0, .int .i64 0] := by (repeat (first | (with_reducible assumption) | ((with_reducible refine Bk.new_ ?_); (first | rfl | (simp only [World.size_alloc, World.size_setCell, World.size_drew, World.heap_drewN]; done))) | (with_reducible refine Bk.alloc ?_ _) | (with_reducible refine Bk.drew ?_) | (with_reducible refine Bk.drewN ?_ _) | ((with_reducible refine Bk.far ?_ ?_ _); rotate_left; focus (simp only []; omega)) | ((with_reducible refine Bk.below ?_ (by with_reducible assumption) ?_); rotate_left; focus (go_size; done))))
      have mr_0 := mr.cell 0 rfl
      have mr_1 := mr.cell 1 rfl
      have mr_2 := mr.cell 2 rfl
      have mr_3 := mr.cell 3 rfl
      have mr_4 := mr.frozen 0
      have mr_5 := mr.frozen 1
      have mr_6 := mr.frozen 2
      have mr_7 := mr.frozen 3
      clear hb4c hb4f
      go_wp2_with fail
      refine bodyPost_ret (by simp [results, Try.results34, go_sem, *]; try rfl) rfl ?_
      exact ⟨rfl, by (repeat' (first | (with_reducible exact Below.refl _ _) | (with_reducible assumption) | (with_reducible refine Below.drew ?_) | (with_reducible refine below_drewN ?_ _) | ((with_reducible refine Below.alloc ?_ ?_ _); rotate_left; focus (go_size; done)) | ((with_reducible refine Below.setCell ?_ ?_ _); rotate_left; focus (go_size; done)) | ((with_reducible refine Below.trans ?_ (Below.mono (by with_reducible assumption) ?_)); rotate_left; focus (go_size; done))))⟩
theorem dform_turn2 {b : Bool} {c : Nat} {s : Int} (h : dform b c s = true) : dform (sg (!b) c) c s = true := by
  obtain ⟨t, rfl, h1, h2, h3, h4⟩ := (dform_iff b c s).1 h
  refine (dform_iff _ _ _).2 ⟨t, rfl, h1, h2, fun h0 => ⟨by rw [h0]; exact sg_zero _, (h3 h0).2⟩, h4⟩
theorem ceil_same {b : Bool} {c s : Nat} (hb : c = 0 → b = false) : wholeV c s (sg (!b) c) = wholeV c s (!b) ∧ sg (!(sg (sg (!b) c) (wholeV c s (!b)))) (wholeV c s (!b)) = sg b (wholeV c s (!b)) := by
  by_cases h0 : c = 0
  · have e := hb h0
    have hv : ∀ u, wholeV c s u = 0 := fun u => by rw [wholeV_flat (.inr (by rw [h0]; exact Nat.zero_mod _)), h0]; exact Nat.zero_div _
    rw [hv, hv]
    exact ⟨rfl, by rw [sg_zero, sg_zero]⟩
  · rw [sg_pos h0]
    refine ⟨rfl, ?_⟩
    by_cases hv : wholeV c s (!b) = 0
    · rw [hv, sg_zero, sg_zero]
    · rw [sg_pos hv, sg_pos hv, sg_pos hv, Bool.not_not]
set_option maxHeartbeats 4000000 in
theorem docceil_ok (b : Bool) (c s : Nat) (hc : c < B34) (hs : s ≤ 18) (h : dform b c s = true) (hb : c = 0 → b = false) (w : World) : Calls Try.prog 36 #[.agg #[.bool b, .int .u64 (wd (c) 1), .int .u64 (wd (c) 0), .int .i64 s]] w fun e w' => e = .returned (.tuple #[.agg #[.bool (sg b (wholeV c s (!b))), .int .u64 (wd ((wholeV c s (!b))) 1), .int .u64 (wd ((wholeV c s (!b))) 0), .int .i64 0], .int .i64 0]) ∧ Below w.heap.size w w' := by
  have hc2 := Nat.lt_trans hc B34_lt
  have HF := Lib.hid (fun W => rform_any b c s hc2 W)
  rw [h] at HF
  have HT := Lib.hid (fun W => flip_any b c s hc2 W)
  have HW := Lib.hid (fun W => docfloor_ok (sg (!b) c) c s hc hs (dform_turn2 h) W)
  have hV := wholeV_lt (s := s) (!b) hc
  obtain ⟨e1, e2⟩ := ceil_same (b := b) (c := c) (s := s) hb
  rw [e1] at HW
  have HU := Lib.hid (fun W => flip_any (sg (sg (!b) c) (wholeV c s (!b))) (wholeV c s (!b)) 0 (Nat.lt_trans hV B34_lt) W)
  rw [e2] at HU
  generalize wholeV c s (!b) = V at *
  generalize sg b V = sb at *
  generalize sg (sg (!b) c) V = sc at *
  generalize sg (!b) c = r at *
  generalize wd V 0 = V0 at *
  generalize wd V 1 = V1 at *
  generalize wd c 0 = x0 at *
  generalize wd c 1 = x1 at *
  clear hc hc2 h hV e1 e2 hb
  go_enter Try.func36, Try.ntmps36
  go_wp2_with fail
  refine (HF.out _).mono ?_
  rintro _ w1 ⟨rfl, hb1⟩; have hb1s := hb1.size; (try simp only [World.size_alloc, World.size_setCell, World.size_drew, World.heap_drewN] at hb1s); obtain ⟨hb1c, hb1f⟩ := bcell hb1; (try have : w.heap.size < w1.heap.size := by omega); (try have : w.heap.size + 1 < w1.heap.size := by omega); (try have : w.heap.size + 1 + 1 < w1.heap.size := by omega); (try have : w.heap.size + 1 + 1 + 1 < w1.heap.size := by omega)
  have k0 : Bk w1 (w.heap.size) 26 [.bool b, .int .u64 x1, .int .u64 x0, .int .i64 (s : Int)] := by (repeat (first | (with_reducible assumption) | ((with_reducible refine Bk.new_ ?_); (first | rfl | (simp only [World.size_alloc, World.size_setCell, World.size_drew, World.heap_drewN]; done))) | (with_reducible refine Bk.alloc ?_ _) | (with_reducible refine Bk.drew ?_) | (with_reducible refine Bk.drewN ?_ _) | ((with_reducible refine Bk.far ?_ ?_ _); rotate_left; focus (simp only []; omega)) | ((with_reducible refine Bk.below ?_ (by with_reducible assumption) ?_); rotate_left; focus (go_size; done))))
  have k0_0 := k0.cell 0 rfl
  have k0_1 := k0.cell 1 rfl
  have k0_2 := k0.cell 2 rfl
  have k0_3 := k0.cell 3 rfl
  have k0_4 := k0.frozen 0
  have k0_5 := k0.frozen 1
  have k0_6 := k0.frozen 2
  have k0_7 := k0.frozen 3
  have k0l := k0.lt
  have r0 : Bk w1 (w.heap.size + 1) 26 [.bool false, .int .u64 0, .int .u64 0, .int .i64 0] := by (repeat (first | (with_reducible assumption) | ((with_reducible refine Bk.new_ ?_); (first | rfl | (simp only [World.size_alloc, World.size_setCell, World.size_drew, World.heap_drewN]; done))) | (with_reducible refine Bk.alloc ?_ _) | (with_reducible refine Bk.drew ?_) | (with_reducible refine Bk.drewN ?_ _) | ((with_reducible refine Bk.far ?_ ?_ _); rotate_left; focus (simp only []; omega)) | ((with_reducible refine Bk.below ?_ (by with_reducible assumption) ?_); rotate_left; focus (go_size; done))))
  have r0_0 := r0.cell 0 rfl
  have r0_1 := r0.cell 1 rfl
  have r0_2 := r0.cell 2 rfl
  have r0_3 := r0.cell 3 rfl
  have r0_4 := r0.frozen 0
  have r0_5 := r0.frozen 1
  have r0_6 := r0.frozen 2
  have r0_7 := r0.frozen 3
  have r0l := r0.lt
  clear hb1c hb1f
  go_wp2_with fail
  refine (HT.out _).mono ?_
  rintro _ w2 ⟨rfl, hb2⟩; have hb2s := hb2.size; (try simp only [World.size_alloc, World.size_setCell, World.size_drew, World.heap_drewN] at hb2s); obtain ⟨hb2c, hb2f⟩ := bcell hb2; (try have : w.heap.size < w2.heap.size := by omega); (try have : w.heap.size + 1 < w2.heap.size := by omega); (try have : w.heap.size + 1 + 1 < w2.heap.size := by omega); (try have : w.heap.size + 1 + 1 + 1 < w2.heap.size := by omega)
  clear k0_0 k0_1 k0_2 k0_3 k0_4 k0_5 k0_6 k0_7
  clear r0_0 r0_1 r0_2 r0_3 r0_4 r0_5 r0_6 r0_7
  clear hb2c hb2f
  go_wp2_with fail
  refine (HW.out _).mono ?_
  rintro _ w3 ⟨rfl, hb3⟩; have hb3s := hb3.size; (try simp only [World.size_alloc, World.size_setCell, World.size_drew, World.heap_drewN] at hb3s); obtain ⟨hb3c, hb3f⟩ := bcell hb3; (try have : w.heap.size < w3.heap.size := by omega); (try have : w.heap.size + 1 < w3.heap.size := by omega); (try have : w.heap.size + 1 + 1 < w3.heap.size := by omega); (try have : w.heap.size + 1 + 1 + 1 < w3.heap.size := by omega)
  have kr : Bk w3 (w.heap.size + 1) 26 [.bool false, .int .u64 0, .int .u64 0, .int .i64 0] := by (repeat (first | (with_reducible assumption) | ((with_reducible refine Bk.new_ ?_); (first | rfl | (simp only [World.size_alloc, World.size_setCell, World.size_drew, World.heap_drewN]; done))) | (with_reducible refine Bk.alloc ?_ _) | (with_reducible refine Bk.drew ?_) | (with_reducible refine Bk.drewN ?_ _) | ((with_reducible refine Bk.far ?_ ?_ _); rotate_left; focus (simp only []; omega)) | ((with_reducible refine Bk.below ?_ (by with_reducible assumption) ?_); rotate_left; focus (go_size; done))))
  have krl := kr.lt
  clear hb3c hb3f
  go_wp2_with fail
  refine (HU.out _).mono ?_
  rintro _ w4 ⟨rfl, hb4⟩; have hb4s := hb4.size; (try simp only [World.size_alloc, World.size_setCell, World.size_drew, World.heap_drewN] at hb4s); obtain ⟨hb4c, hb4f⟩ := bcell hb4; (try have : w.heap.size < w4.heap.size := by omega); (try have : w.heap.size + 1 < w4.heap.size := by omega); (try have : w.heap.size + 1 + 1 < w4.heap.size := by omega); (try have : w.heap.size + 1 + 1 + 1 < w4.heap.size := by omega)
  have mr : Bk w4 (w.heap.size + 1) 26 [.bool false, .int .u64 0, .int .u64 0, .int .i64 0] := by (repeat (first | (with_reducible assumption) | ((with_reducible refine Bk.new_ ?_); (first | rfl | (simp only [World.size_alloc, World.size_setCell, World.size_drew, World.heap_drewN]; done))) | (with_reducible refine Bk.alloc ?_ _) | (with_reducible refine Bk.drew ?_) | (with_reducible refine Bk.drewN ?_ _) | ((with_reducible refine Bk.far ?_ ?_ _); rotate_left; focus (simp only []; omega)) | ((with_reducible refine Bk.below ?_ (by with_reducible assumption) ?_); rotate_left; focus (go_size; done))))
  have mr_0 := mr.cell 0 rfl
  have mr_1 := mr.cell 1 rfl
  have mr_2 := mr.cell 2 rfl
  have mr_3 := mr.cell 3 rfl
  have mr_4 := mr.frozen 0
  have mr_5 := mr.frozen 1
  have mr_6 := mr.frozen 2
  have mr_7 := mr.frozen 3
  clear hb4c hb4f
  go_wp2_with fail
  refine bodyPost_ret (by simp [results, Try.results36, go_sem, *]; try rfl) rfl ?_
  exact ⟨rfl, by (repeat' (first | (with_reducible exact Below.refl _ _) | (with_reducible assumption) | (with_reducible refine Below.drew ?_) | (with_reducible refine below_drewN ?_ _) | ((with_reducible refine Below.alloc ?_ ?_ _); rotate_left; focus (go_size; done)) | ((with_reducible refine Below.setCell ?_ ?_ _); rotate_left; focus (go_size; done)) | ((with_reducible refine Below.trans ?_ (Below.mono (by with_reducible assumption) ?_)); rotate_left; focus (go_size; done))))⟩
end Go.Proofs.Ythkgjodidkpaeaa

set_option linter.unusedSimpArgs false
set_option linter.unusedVariables false
namespace Go.Proofs.Ythkgjodidkpaeaa
open Go.RowKit
set_option maxRecDepth 100000 in
theorem open_long {H : Type} {enc : TypeId × Value → H} {W : World} {base b0 : Nat} {v : Value} {d : DataW H} {p : List MemPlace} {sp : Nat → Bool} {held : Bool}
    (hv : Value.okWide Try.prog W .any base 45 v) (h : DataW.Trod enc Try.prog W b0 sp held 45 v d p) :
    ∃ a0 a1 a2 a3 : Int, v = .agg #[.int .u64 a0, .int .u64 a1, .int .u64 a2, .int .u64 a3] ∧ (Lit.int .u64 a0).wf = true ∧ (Lit.int .u64 a1).wf = true ∧ (Lit.int .u64 a2).wf = true ∧ (Lit.int .u64 a3).wf = true := by
  obtain ⟨cs, rfl, hsz, _⟩ : ∃ cs, v = .agg cs ∧ cs.size = Try.prog.cellsOf 45 ∧ Row.okWide Try.prog W .any base 45 cs := by
    simpa [Value.okWide, Try.underlying45] using hv
  have hc : Try.prog.cellsOf 45 = 4 := by kernel_rfl
  have hce : Try.prog.cellsOf 22 = 1 := by kernel_rfl
  obtain ⟨c0, c1, c2, c3, rfl⟩ := Joins.array4 (hsz.trans hc)
  obtain ⟨fuel, hf⟩ := h
  obtain ⟨y0, y1, y2, y3, m, _, hy0, hy1, hy2, hy3⟩ := Go.ChangeShapes.trod_array4 Try.underlying45 hce hf
  obtain ⟨x0, e0, _, w0⟩ := DataW.trod_int Try.underlying22 hy0
  obtain ⟨x1, e1, _, w1⟩ := DataW.trod_int Try.underlying22 hy1
  obtain ⟨x2, e2, _, w2⟩ := DataW.trod_int Try.underlying22 hy2
  obtain ⟨x3, e3, _, w3⟩ := DataW.trod_int Try.underlying22 hy3
  simp at e0 e1 e2 e3
  subst e0 e1 e2 e3
  exact ⟨x0, x1, x2, x3, rfl, w0, w1, w2, w3⟩
/-- a word's bounds -/
theorem wf_word {a : Int} (h : (Lit.int .u64 a).wf = true) : 0 ≤ a ∧ a < 18446744073709551616 := by
  have := bounds_u64 h; omega
end Go.Proofs.Ythkgjodidkpaeaa

set_option linter.unusedSimpArgs false
set_option linter.unusedVariables false
namespace Go.Proofs.Ythkgjodidkpaeaa
open Go.RowKit

set_option maxRecDepth 100000 in
theorem eq_dec (b : Bool) (x y s : Int) (b' : Bool) (x' y' s' : Int) (W : World) : (binOp .eql 26 (.agg #[.bool b, .int .u64 x, .int .u64 y, .int .i64 s]) (.agg #[.bool b', .int .u64 x', .int .u64 y', .int .i64 s'])).run Try.prog W = .ok (.bool ((b == b') && ((x == x') && ((y == y') && (s == s'))))) W := by
  go_simp
  by_cases h0 : b = b' <;> by_cases h1 : x = x' <;> by_cases h2 : y = y' <;> by_cases h3 : s = s' <;> simp [h0, h1, h2, h3]
set_option maxRecDepth 100000 in
theorem neq_dec (b : Bool) (x y s : Int) (b' : Bool) (x' y' s' : Int) (W : World) : (binOp .neq 26 (.agg #[.bool b, .int .u64 x, .int .u64 y, .int .i64 s]) (.agg #[.bool b', .int .u64 x', .int .u64 y', .int .i64 s'])).run Try.prog W = .ok (.bool (!((b == b') && ((x == x') && ((y == y') && (s == s')))))) W := by
  go_simp
  by_cases h0 : b = b' <;> by_cases h1 : x = x' <;> by_cases h2 : y = y' <;> by_cases h3 : s = s' <;> simp [h0, h1, h2, h3]
theorem fit_exact {n t : Nat} (h : n < B34) (ht : t ≤ 18) : FitC n (10 ^ t) = stripC n t ∧ FitS n (10 ^ t) = stripS n t ∧ FitE n (10 ^ t) = 0 := by
  have e := near_high n t 0
  rw [Nat.add_zero, Nat.pow_zero, Nat.mul_one] at e
  unfold FitC FitS FitE
  rw [fit_top n t ht, fitK_yes (by rw [e]; exact h), e]
  exact ⟨rfl, rfl, rfl⟩
theorem kn_add (W : World) : Calls Try.prog 15 #[.agg #[.bool false, .int .u64 0, .int .u64 1, .int .i64 1], .agg #[.bool false, .int .u64 0, .int .u64 2, .int .i64 1]] W fun e w' => e = .returned (.tuple #[.agg #[.bool false, .int .u64 0, .int .u64 3, .int .i64 1], .int .i64 0]) ∧ Below W.heap.size W w' := by
  have hB : (3 : Nat) < B34 := by unfold B34; decide
  have h := add_ok false 1 1 false 2 1 ((dform_iff _ _ _).2 ⟨1, rfl, by omega, by decide, fun h => absurd h (by decide), .inr (by decide)⟩) ((dform_iff _ _ _).2 ⟨1, rfl, by omega, by decide, fun h => absurd h (by decide), .inr (by decide)⟩) (by omega) (by omega) (by decide) (by decide) W
  obtain ⟨e1, e2, e3, e4⟩ := add_units false false 1 2 1 1 1 (by decide) (by decide) rfl
  rw [e1, e2, e3, e4] at h
  obtain ⟨s1, s2⟩ := sgn_same (b := false) (b' := false) (x := 1 * 10 ^ (1 - 1)) (y := 2 * 10 ^ (1 - 1)) rfl
  rw [s1, s2] at h
  obtain ⟨f1, f2, f3⟩ := fit_exact (n := 3) (t := 1) hB (by decide)
  obtain ⟨g1, g2⟩ := strip_no (c := 3) (by decide) 1
  rw [g1] at f1
  rw [g2] at f2
  have e : 1 * 10 ^ (1 - 1) + 2 * 10 ^ (1 - 1) = 3 := by decide
  rw [e, f1, f2, f3] at h
  have a0 : wd 1 0 = 1 := by rw [wd0]; rfl
  have a1 : wd 1 1 = 0 := by rw [wd1]; rfl
  have b0 : wd 2 0 = 2 := by rw [wd0]; rfl
  have b1 : wd 2 1 = 0 := by rw [wd1]; rfl
  have c0 : wd 3 0 = 3 := by rw [wd0]; rfl
  have c1 : wd 3 1 = 0 := by rw [wd1]; rfl
  rw [a0, a1, b0, b1, c0, c1, sg_pos (by decide)] at h
  exact h
set_option maxHeartbeats 1000000 in
theorem known_any (w : World) : Calls Try.prog 11 #[] w fun e w' => e = .returned (.bool true) ∧ Below w.heap.size w w' := by
  have q : ∀ W, (binOp .eql 26 (.agg #[.bool false, .int .u64 0, .int .u64 3, .int .i64 1]) (.agg #[.bool false, .int .u64 0, .int .u64 3, .int .i64 1])).run Try.prog W = .ok (.bool true) W := fun W => eq_dec _ _ _ _ _ _ _ _ W
  go_enter Try.func11, Try.ntmps11
  go_wp2_with fail
  refine (kn_add _).mono ?_
  rintro _ w1 ⟨rfl, hb1⟩; have hb1s := hb1.size; (try simp only [World.size_alloc, World.size_setCell, World.size_drew, World.heap_drewN] at hb1s); obtain ⟨hb1c, hb1f⟩ := bcell hb1; (try have : w.heap.size < w1.heap.size := by omega); (try have : w.heap.size + 1 < w1.heap.size := by omega); (try have : w.heap.size + 1 + 1 < w1.heap.size := by omega); (try have : w.heap.size + 1 + 1 + 1 < w1.heap.size := by omega)
  go_wp2_with fail
  go_ret
  exact ⟨rfl, by (repeat' (first | (with_reducible exact Below.refl _ _) | (with_reducible assumption) | (with_reducible refine Below.drew ?_) | (with_reducible refine below_drewN ?_ _) | ((with_reducible refine Below.alloc ?_ ?_ _); rotate_left; focus (go_size; done)) | ((with_reducible refine Below.setCell ?_ ?_ _); rotate_left; focus (go_size; done)) | ((with_reducible refine Below.trans ?_ (Below.mono (by with_reducible assumption) ?_)); rotate_left; focus (go_size; done))))⟩
set_option maxRecDepth 100000 in
theorem open_dec {H : Type} {enc : TypeId × Value → H} {W : World} {base b0 : Nat} {v : Value} {d : DataW H} {p : List MemPlace} {sp : Nat → Bool} {held : Bool}
    (hv : Value.okWide Try.prog W .any base 26 v) (h : DataW.Trod enc Try.prog W b0 sp held 26 v d p) :
    ∃ (b : Bool) (a0 a1 a2 : Int), v = .agg #[.bool b, .int .u64 a0, .int .u64 a1, .int .i64 a2] ∧ (Lit.int .u64 a0).wf = true ∧ (Lit.int .u64 a1).wf = true ∧ (Lit.int .i64 a2).wf = true := by
  obtain ⟨cs, rfl, hsz⟩ := Go.WideShapes.okWide_struct Try.underlying26 hv
  have hc : Try.prog.cellsOf 26 = 4 := by kernel_rfl
  obtain ⟨c0, c1, c2, c3, rfl⟩ := Joins.array4 (hsz.trans hc)
  obtain ⟨fuel, hf⟩ := h
  obtain ⟨xs, n, _, hx, _, hlen, hg⟩ := DataW.trod_struct Try.underlying26 hf
  have n0 : Try.prog.cellsOf 4 = 1 := by kernel_rfl
  have n1 : Try.prog.cellsOf 24 = 2 := by kernel_rfl
  have n2 : Try.prog.cellsOf 3 = 1 := by kernel_rfl
  have n3 : Try.prog.cellsOf 22 = 1 := by kernel_rfl
  have g0 := hg 0 _ rfl
  have g1 := hg 1 _ rfl
  have g2 := hg 2 _ rfl
  clear hg hf hx
  match xs, hlen with
  | [y0, y1, y2], _ =>
    simp only [List.getElem_toArray, List.getElem_cons_zero, List.getElem_cons_succ, n0, n1, n2] at g0 g1 g2
    simp [Value.cells] at g0 g1 g2
    obtain ⟨b, e0, _⟩ := DataW.trod_bool Try.underlying4 g0
    obtain ⟨z2, e2, _, w2⟩ := DataW.trod_int Try.underlying3 g2
    obtain ⟨ys, n', _, _, _, hlen2, hg2⟩ := DataW.trod_struct Try.underlying24 g1
    have k0 := hg2 0 _ rfl
    have k1 := hg2 1 _ rfl
    match ys, hlen2 with
    | [q0, q1], _ =>
      simp only [List.getElem_toArray, List.getElem_cons_zero, List.getElem_cons_succ, n3] at k0 k1
      simp at k0 k1
      obtain ⟨z0, f0, _, v0⟩ := DataW.trod_int Try.underlying22 k0
      obtain ⟨z1, f1, _, v1⟩ := DataW.trod_int Try.underlying22 k1
      simp at e0 e2 f0 f1
      subst e0 e2 f0 f1
      exact ⟨b, z0, z1, z2, rfl, v0, v1, w2⟩
end Go.Proofs.Ythkgjodidkpaeaa

set_option linter.unusedSimpArgs false
set_option linter.unusedVariables false
namespace Go.Proofs.Ythkgjodidkpaeaa
open Go.RowKit

theorem rd_spec {c s n : Nat} (hc : c < B34) (hs : s ≤ 18) (hn : n ≤ 18) (hf : s = 0 ∨ c % 10 ≠ 0) :
    FitC (near (unit c s) (10 ^ (18 - n))) (10 ^ n) = rdC c s n ∧ FitS (near (unit c s) (10 ^ (18 - n))) (10 ^ n) = rdS c s n ∧ FitE (near (unit c s) (10 ^ (18 - n))) (10 ^ n) = 0 := by
  unfold rdC rdS unit
  by_cases h : s ≤ n
  · rw [if_pos h, if_pos h]
    have e := near_high c (18 - n) (n - s)
    rw [show 18 - n + (n - s) = 18 - s by omega] at e
    rw [e]
    have e2 : (10 : Nat) ^ n = 10 ^ s * 10 ^ (n - s) := by rw [← Nat.pow_add]; congr 1; omega
    obtain ⟨f1, f2, f3⟩ := fit_scale c (10 ^ s) (10 ^ (n - s)) (Nat.pow_pos (by decide))
    rw [← e2] at f1 f2 f3
    obtain ⟨g1, g2, g3⟩ := fit_exact hc hs
    obtain ⟨k1, k2⟩ := strip_fix hf
    rw [f1, f2, f3, g1, g2, g3, k1, k2]
    exact ⟨rfl, rfl, rfl⟩
  · rw [if_neg h, if_neg h]
    have e := near_pow c (18 - s) (18 - n) (by omega)
    rw [show 18 - n - (18 - s) = s - n by omega] at e
    rw [e]
    exact fit_exact (near_tenth (by omega) hc) hn
set_option maxHeartbeats 2000000 in
theorem docround2_arg (b : Bool) (c : Nat) (s n : Int) (hn : n < 0 ∨ 18 < n) (w : World) : Calls Try.prog 38 #[.agg #[.bool b, .int .u64 (wd (c) 1), .int .u64 (wd (c) 0), .int .i64 s], .int .i64 n] w fun e w' => e = .returned (.tuple #[.agg #[.bool false, .int .u64 0, .int .u64 0, .int .i64 0], .int .i64 1]) ∧ Below w.heap.size w w' := by
  generalize wd c 0 = x0 at *
  generalize wd c 1 = x1 at *
  rcases hn with hn | hn
  · go_enter Try.func38, Try.ntmps38
    go_wp2_with fail
    refine bodyPost_ret (by simp [results, Try.results38, go_sem, *]; try rfl) rfl ?_
    exact ⟨rfl, by (repeat' (first | (with_reducible exact Below.refl _ _) | (with_reducible assumption) | (with_reducible refine Below.drew ?_) | (with_reducible refine below_drewN ?_ _) | ((with_reducible refine Below.alloc ?_ ?_ _); rotate_left; focus (go_size; done)) | ((with_reducible refine Below.setCell ?_ ?_ _); rotate_left; focus (go_size; done)) | ((with_reducible refine Below.trans ?_ (Below.mono (by with_reducible assumption) ?_)); rotate_left; focus (go_size; done))))⟩
  · have h0 : ¬ n < 0 := by omega
    go_enter Try.func38, Try.ntmps38
    go_wp2_with fail
    refine bodyPost_ret (by simp [results, Try.results38, go_sem, *]; try rfl) rfl ?_
    exact ⟨rfl, by (repeat' (first | (with_reducible exact Below.refl _ _) | (with_reducible assumption) | (with_reducible refine Below.drew ?_) | (with_reducible refine below_drewN ?_ _) | ((with_reducible refine Below.alloc ?_ ?_ _); rotate_left; focus (go_size; done)) | ((with_reducible refine Below.setCell ?_ ?_ _); rotate_left; focus (go_size; done)) | ((with_reducible refine Below.trans ?_ (Below.mono (by with_reducible assumption) ?_)); rotate_left; focus (go_size; done))))⟩
set_option maxHeartbeats 2000000 in
theorem docround2_bad (b : Bool) (c : Nat) (s n : Int) (hc : c < 2 ^ 128) (hn0 : 0 ≤ n) (hn1 : n ≤ 18) (h : dform b c s = false) (w : World) : Calls Try.prog 38 #[.agg #[.bool b, .int .u64 (wd (c) 1), .int .u64 (wd (c) 0), .int .i64 s], .int .i64 n] w fun e w' => e = .returned (.tuple #[.agg #[.bool false, .int .u64 0, .int .u64 0, .int .i64 0], .int .i64 2]) ∧ Below w.heap.size w w' := by
  have HF := Lib.hid (fun W => rform_any b c s hc W)
  rw [h] at HF
  have g0 : ¬ n < 0 := by omega
  have g1 : ¬ 18 < n := by omega
  generalize wd c 0 = x0 at *
  generalize wd c 1 = x1 at *
  clear hc h
  go_enter Try.func38, Try.ntmps38
  go_wp2_with fail
  refine (HF.out _).mono ?_
  rintro _ w1 ⟨rfl, hb1⟩; have hb1s := hb1.size; (try simp only [World.size_alloc, World.size_setCell, World.size_drew, World.heap_drewN] at hb1s); obtain ⟨hb1c, hb1f⟩ := bcell hb1; (try have : w.heap.size < w1.heap.size := by omega); (try have : w.heap.size + 1 < w1.heap.size := by omega); (try have : w.heap.size + 1 + 1 < w1.heap.size := by omega); (try have : w.heap.size + 1 + 1 + 1 < w1.heap.size := by omega)
  have r0 : Bk w1 (w.heap.size + 1) 26 [.bool false, .int .u64 0, .int .u64 0, .int .i64 0] := by (repeat (first | (with_reducible assumption) | ((with_reducible refine Bk.new_ ?_); (first | rfl | (simp only [World.size_alloc, World.size_setCell, World.size_drew, World.heap_drewN]; done))) | (with_reducible refine Bk.alloc ?_ _) | (with_reducible refine Bk.drew ?_) | (with_reducible refine Bk.drewN ?_ _) | ((with_reducible refine Bk.far ?_ ?_ _); rotate_left; focus (simp only []; omega)) | ((with_reducible refine Bk.below ?_ (by with_reducible assumption) ?_); rotate_left; focus (go_size; done))))
  have r0_0 := r0.cell 0 rfl
  have r0_1 := r0.cell 1 rfl
  have r0_2 := r0.cell 2 rfl
  have r0_3 := r0.cell 3 rfl
  have r0_4 := r0.frozen 0
  have r0_5 := r0.frozen 1
  have r0_6 := r0.frozen 2
  have r0_7 := r0.frozen 3
  have r0l := r0.lt
  clear hb1c hb1f r0
  go_wp2_with fail
  refine bodyPost_ret (by simp [results, Try.results38, go_sem, *]; try rfl) rfl ?_
  exact ⟨rfl, by (repeat' (first | (with_reducible exact Below.refl _ _) | (with_reducible assumption) | (with_reducible refine Below.drew ?_) | (with_reducible refine below_drewN ?_ _) | ((with_reducible refine Below.alloc ?_ ?_ _); rotate_left; focus (go_size; done)) | ((with_reducible refine Below.setCell ?_ ?_ _); rotate_left; focus (go_size; done)) | ((with_reducible refine Below.trans ?_ (Below.mono (by with_reducible assumption) ?_)); rotate_left; focus (go_size; done))))⟩
set_option maxRecDepth 100000 in
set_option maxHeartbeats 4000000 in
theorem docround2_ok (b : Bool) (c s n : Nat) (hc : c < B34) (hs : s ≤ 18) (hn : n ≤ 18) (h : dform b c s = true) (hf : s = 0 ∨ c % 10 ≠ 0) (w : World) : Calls Try.prog 38 #[.agg #[.bool b, .int .u64 (wd (c) 1), .int .u64 (wd (c) 0), .int .i64 s], .int .i64 n] w fun e w' => e = .returned (.tuple #[.agg #[.bool (sg b (rdC c s n)), .int .u64 (wd ((rdC c s n)) 1), .int .u64 (wd ((rdC c s n)) 0), .int .i64 (rdS c s n)], .int .i64 0]) ∧ Below w.heap.size w w' := by
  have hc2 : c < 2 ^ 128 := Nat.lt_trans hc B34_lt
  have HF := Lib.hid (fun W => rform_any b c s hc2 W)
  rw [h] at HF
  have HU := Lib.hid (fun W => units_any b c s hc2 hs W)
  unfold RetUnits at HU
  have n0 : (0 : Int) ≤ (n : Int) := by omega
  have n1 : (n : Int) ≤ 18 := by omega
  have H1 : Hid (∀ W, Calls Try.prog 61 #[.int .i64 (18 - (n : Int))] W (RetDg (10 ^ (18 - n)) W)) := Lib.hid (fun W => by
    rw [show (18 : Int) - (n : Int) = ((18 - n : Nat) : Int) by omega]
    exact one_any (18 - n) (by omega) W)
  have H2 := Lib.hid (fun W => one_any n (by omega) W)
  have gw : IntKind.i64.wrap (18 - (n : Int)) = 18 - (n : Int) := IntWalk.i64_in _ (by omega)
  have hlt : near (unit c s) (10 ^ (18 - n)) < 10 ^ 53 := by
    have h1 := near_le (unit c s) (10 ^ (18 - n))
    have h2 := unit_lt (s := s) hc
    have h3 : (10 : Nat) ^ 52 + 2 ≤ 10 ^ 53 := by decide
    omega
  obtain ⟨e1, e2, e3⟩ := rd_spec hc hs hn hf
  have HN := Lib.hid (fun W u v hu hv => near_any (unit c s) (10 ^ (18 - n)) (Nat.pow_pos (by decide)) u v W hu hv (unit_tiny hc) (ten_tiny (by omega)))
  have HT := Lib.hid (fun W u v hu hv => rfit_any b (near (unit c s) (10 ^ (18 - n))) (10 ^ n) u v W hu hv (Slim.of_lt hlt (by decide)) (ten_slim (by omega)) (Nat.pow_pos (by decide)))
  rw [e1, e2, e3] at HT
  generalize near (unit c s) (10 ^ (18 - n)) = q at *
  generalize unit c s = X at *
  generalize 10 ^ (18 - n) = D at *
  generalize 10 ^ n = G at *
  generalize rdC c s n = C at *
  generalize rdS c s n = S at *
  generalize sg b C = sb at *
  generalize wd c 0 = x0 at *
  generalize wd c 1 = x1 at *
  clear hc hc2 h hf hs hn hlt e1 e2 e3
  go_enter Try.func38, Try.ntmps38
  go_wp2_with fail
  refine (HF.out _).mono ?_
  rintro _ w1 ⟨rfl, hb1⟩; have hb1s := hb1.size; (try simp only [World.size_alloc, World.size_setCell, World.size_drew, World.heap_drewN] at hb1s); obtain ⟨hb1c, hb1f⟩ := bcell hb1; (try have : w.heap.size < w1.heap.size := by omega); (try have : w.heap.size + 1 < w1.heap.size := by omega); (try have : w.heap.size + 1 + 1 < w1.heap.size := by omega); (try have : w.heap.size + 1 + 1 + 1 < w1.heap.size := by omega)
  have k0 : Bk w1 (w.heap.size) 26 [.bool b, .int .u64 x1, .int .u64 x0, .int .i64 (s : Int)] := by (repeat (first | (with_reducible assumption) | ((with_reducible refine Bk.new_ ?_); (first | rfl | (simp only [World.size_alloc, World.size_setCell, World.size_drew, World.heap_drewN]; done))) | (with_reducible refine Bk.alloc ?_ _) | (with_reducible refine Bk.drew ?_) | (with_reducible refine Bk.drewN ?_ _) | ((with_reducible refine Bk.far ?_ ?_ _); rotate_left; focus (simp only []; omega)) | ((with_reducible refine Bk.below ?_ (by with_reducible assumption) ?_); rotate_left; focus (go_size; done))))
  have k0_0 := k0.cell 0 rfl
  have k0_1 := k0.cell 1 rfl
  have k0_2 := k0.cell 2 rfl
  have k0_3 := k0.cell 3 rfl
  have k0_4 := k0.frozen 0
  have k0_5 := k0.frozen 1
  have k0_6 := k0.frozen 2
  have k0_7 := k0.frozen 3
  have k0l := k0.lt
  have r0 : Bk w1 (w.heap.size + 1) 26 [.bool false, .int .u64 0, .int .u64 0, .int .i64 0] := by (repeat (first | (with_reducible assumption) | ((with_reducible refine Bk.new_ ?_); (first | rfl | (simp only [World.size_alloc, World.size_setCell, World.size_drew, World.heap_drewN]; done))) | (with_reducible refine Bk.alloc ?_ _) | (with_reducible refine Bk.drew ?_) | (with_reducible refine Bk.drewN ?_ _) | ((with_reducible refine Bk.far ?_ ?_ _); rotate_left; focus (simp only []; omega)) | ((with_reducible refine Bk.below ?_ (by with_reducible assumption) ?_); rotate_left; focus (go_size; done))))
  have r0_0 := r0.cell 0 rfl
  have r0_1 := r0.cell 1 rfl
  have r0_2 := r0.cell 2 rfl
  have r0_3 := r0.cell 3 rfl
  have r0_4 := r0.frozen 0
  have r0_5 := r0.frozen 1
  have r0_6 := r0.frozen 2
  have r0_7 := r0.frozen 3
  have r0l := r0.lt
  clear hb1c hb1f
  go_wp2_with fail
  refine (HU.out _).mono ?_
  rintro _ w2 ⟨v2, rfl, d2, hb2⟩
  have hb2s := hb2.size
  have Hd2 := Lib.hid d2
  clear d2
  have ka : Bk w2 w.heap.size 26 [.bool b, .int .u64 x1, .int .u64 x0, .int .i64 (s : Int)] := by (repeat (first | (with_reducible assumption) | ((with_reducible refine Bk.new_ ?_); (first | rfl | (simp only [World.size_alloc, World.size_setCell, World.size_drew, World.heap_drewN]; done))) | (with_reducible refine Bk.alloc ?_ _) | (with_reducible refine Bk.drew ?_) | (with_reducible refine Bk.drewN ?_ _) | ((with_reducible refine Bk.far ?_ ?_ _); rotate_left; focus (simp only []; omega)) | ((with_reducible refine Bk.below ?_ (by with_reducible assumption) ?_); rotate_left; focus (go_size; done))))
  have kr : Bk w2 (w.heap.size + 1) 26 [.bool false, .int .u64 0, .int .u64 0, .int .i64 0] := by (repeat (first | (with_reducible assumption) | ((with_reducible refine Bk.new_ ?_); (first | rfl | (simp only [World.size_alloc, World.size_setCell, World.size_drew, World.heap_drewN]; done))) | (with_reducible refine Bk.alloc ?_ _) | (with_reducible refine Bk.drew ?_) | (with_reducible refine Bk.drewN ?_ _) | ((with_reducible refine Bk.far ?_ ?_ _); rotate_left; focus (simp only []; omega)) | ((with_reducible refine Bk.below ?_ (by with_reducible assumption) ?_); rotate_left; focus (go_size; done))))
  have kal := ka.lt
  have krl := kr.lt
  clear k0_0 k0_1 k0_2 k0_3 k0_4 k0_5 k0_6 k0_7
  clear r0_0 r0_1 r0_2 r0_3 r0_4 r0_5 r0_6 r0_7
  go_wp2_with fail
  refine (H1.out _).mono ?_
  rintro _ w3 ⟨v3, rfl, d3, hb3⟩; have hb3s := hb3.size; (try simp only [World.size_alloc, World.size_setCell, World.size_drew, World.heap_drewN] at hb3s); obtain ⟨hb3c, hb3f⟩ := bcell hb3; (try have : w.heap.size < w3.heap.size := by omega); (try have : w.heap.size + 1 < w3.heap.size := by omega); (try have : w.heap.size + 1 + 1 < w3.heap.size := by omega); (try have : w.heap.size + 1 + 1 + 1 < w3.heap.size := by omega); have Hd3 := Lib.hid d3; clear d3
  have ja : Bk w3 w.heap.size 26 [.bool b, .int .u64 x1, .int .u64 x0, .int .i64 (s : Int)] := by (repeat (first | (with_reducible assumption) | ((with_reducible refine Bk.new_ ?_); (first | rfl | (simp only [World.size_alloc, World.size_setCell, World.size_drew, World.heap_drewN]; done))) | (with_reducible refine Bk.alloc ?_ _) | (with_reducible refine Bk.drew ?_) | (with_reducible refine Bk.drewN ?_ _) | ((with_reducible refine Bk.far ?_ ?_ _); rotate_left; focus (simp only []; omega)) | ((with_reducible refine Bk.below ?_ (by with_reducible assumption) ?_); rotate_left; focus (go_size; done))))
  have jr : Bk w3 (w.heap.size + 1) 26 [.bool false, .int .u64 0, .int .u64 0, .int .i64 0] := by (repeat (first | (with_reducible assumption) | ((with_reducible refine Bk.new_ ?_); (first | rfl | (simp only [World.size_alloc, World.size_setCell, World.size_drew, World.heap_drewN]; done))) | (with_reducible refine Bk.alloc ?_ _) | (with_reducible refine Bk.drew ?_) | (with_reducible refine Bk.drewN ?_ _) | ((with_reducible refine Bk.far ?_ ?_ _); rotate_left; focus (simp only []; omega)) | ((with_reducible refine Bk.below ?_ (by with_reducible assumption) ?_); rotate_left; focus (go_size; done))))
  have jal := ja.lt
  have jrl := jr.lt
  clear hb3c hb3f
  go_wp2_with fail
  refine (HN.out _ _ _ (Hd2.out.below hb3) Hd3.out).mono ?_
  rintro _ w4 ⟨v4, rfl, d4, hb4⟩; have hb4s := hb4.size; (try simp only [World.size_alloc, World.size_setCell, World.size_drew, World.heap_drewN] at hb4s); obtain ⟨hb4c, hb4f⟩ := bcell hb4; (try have : w.heap.size < w4.heap.size := by omega); (try have : w.heap.size + 1 < w4.heap.size := by omega); (try have : w.heap.size + 1 + 1 < w4.heap.size := by omega); (try have : w.heap.size + 1 + 1 + 1 < w4.heap.size := by omega); have Hd4 := Lib.hid d4; clear d4
  have la : Bk w4 w.heap.size 26 [.bool b, .int .u64 x1, .int .u64 x0, .int .i64 (s : Int)] := by (repeat (first | (with_reducible assumption) | ((with_reducible refine Bk.new_ ?_); (first | rfl | (simp only [World.size_alloc, World.size_setCell, World.size_drew, World.heap_drewN]; done))) | (with_reducible refine Bk.alloc ?_ _) | (with_reducible refine Bk.drew ?_) | (with_reducible refine Bk.drewN ?_ _) | ((with_reducible refine Bk.far ?_ ?_ _); rotate_left; focus (simp only []; omega)) | ((with_reducible refine Bk.below ?_ (by with_reducible assumption) ?_); rotate_left; focus (go_size; done))))
  have lr : Bk w4 (w.heap.size + 1) 26 [.bool false, .int .u64 0, .int .u64 0, .int .i64 0] := by (repeat (first | (with_reducible assumption) | ((with_reducible refine Bk.new_ ?_); (first | rfl | (simp only [World.size_alloc, World.size_setCell, World.size_drew, World.heap_drewN]; done))) | (with_reducible refine Bk.alloc ?_ _) | (with_reducible refine Bk.drew ?_) | (with_reducible refine Bk.drewN ?_ _) | ((with_reducible refine Bk.far ?_ ?_ _); rotate_left; focus (simp only []; omega)) | ((with_reducible refine Bk.below ?_ (by with_reducible assumption) ?_); rotate_left; focus (go_size; done))))
  have lal := la.lt
  have lrl := lr.lt
  have la_0 := la.cell 0 rfl
  have la_1 := la.cell 1 rfl
  have la_2 := la.cell 2 rfl
  have la_3 := la.cell 3 rfl
  have la_4 := la.frozen 0
  have la_5 := la.frozen 1
  have la_6 := la.frozen 2
  have la_7 := la.frozen 3
  clear hb4c hb4f
  go_wp2_with fail
  go_region_held3 (fun w' => (w'.cell? ⟨w.heap.size, 0, none⟩ = some (.bool b) ∧ w'.cell? ⟨w.heap.size, 1, none⟩ = some (.int .u64 x1) ∧ w'.cell? ⟨w.heap.size, 2, none⟩ = some (.int .u64 x0) ∧ w'.cell? ⟨w.heap.size, 3, none⟩ = some (.int .i64 ((s : Int))))) (first | (first | (go_keep; done) | (simp [go_sem]; done) | ((try dsimp only); (repeat' apply And.intro) <;> (first | (with_reducible assumption) | ((rw [World.cell?_alloc_lt _ _ _ (by show _ < _; omega)]); go_split_ands; (first | with_reducible assumption | (refine (World.cell?_alloc_lt _ _ _ (by show _ < _; omega)).symm.trans ?_; with_reducible assumption))) | ((rw [World.cell?_setCell_other _ _ _ _ (by intro e; injection e; omega)]); with_reducible assumption) | (go_keep; done) | (simp [go_sem]; done) | (simp (disch := go_size) [*, World.cell?_alloc_some, World.cell?_setCell_far]; done)))) | ((refine ⟨Bk.cell (t := 26) (cs := [.bool b, .int .u64 x1, .int .u64 x0, .int .i64 ((s : Int))]) ?_ 0 rfl, Bk.cell (t := 26) (cs := [.bool b, .int .u64 x1, .int .u64 x0, .int .i64 ((s : Int))]) ?_ 1 rfl, Bk.cell (t := 26) (cs := [.bool b, .int .u64 x1, .int .u64 x0, .int .i64 ((s : Int))]) ?_ 2 rfl, Bk.cell (t := 26) (cs := [.bool b, .int .u64 x1, .int .u64 x0, .int .i64 ((s : Int))]) ?_ 3 rfl⟩) <;> ((repeat (first | (with_reducible assumption) | ((with_reducible refine Bk.new_ ?_); (first | rfl | (simp only [World.size_alloc, World.size_setCell, World.size_drew, World.heap_drewN]; done))) | (with_reducible refine Bk.alloc ?_ _) | (with_reducible refine Bk.drew ?_) | (with_reducible refine Bk.drewN ?_ _) | ((with_reducible refine Bk.far ?_ ?_ _); rotate_left; focus (simp only []; omega)) | ((with_reducible refine Bk.below ?_ (by with_reducible assumption) ?_); rotate_left; focus (go_size; done)))); done))) (first | (go_at_call 61; (with_reducible refine (H2.out _).mono ?_); rintro _ w5 ⟨v5, rfl, d5, hb5⟩; have hb5s := hb5.size; (try simp only [World.size_alloc, World.size_setCell, World.size_drew, World.heap_drewN] at hb5s); obtain ⟨hb5c, hb5f⟩ := bcell hb5; (try have : w.heap.size < w5.heap.size := by omega); (try have : w.heap.size + 1 < w5.heap.size := by omega); (try have : w.heap.size + 1 + 1 < w5.heap.size := by omega); (try have : w.heap.size + 1 + 1 + 1 < w5.heap.size := by omega); have Hd5 := Lib.hid d5; clear d5; (try have : w4.heap.size < w5.heap.size := by omega); (try have : w4.heap.size + 1 < w5.heap.size := by omega); (try have : w4.heap.size + 1 + 1 < w5.heap.size := by omega); (try have : w4.heap.size + 1 + 1 + 1 < w5.heap.size := by omega)) | (go_at_call 60; (with_reducible refine (HT.out _ _ _ ?hx ?hy).mono ?_); (case hx => exact (Hd4.out.below (by (repeat' (first | (with_reducible exact Below.refl _ _) | (with_reducible assumption) | (with_reducible refine Below.drew ?_) | (with_reducible refine below_drewN ?_ _) | ((with_reducible refine Below.alloc ?_ ?_ _); rotate_left; focus (go_size; done)) | ((with_reducible refine Below.setCell ?_ ?_ _); rotate_left; focus (go_size; done)) | ((with_reducible refine Below.trans ?_ (Below.mono (by with_reducible assumption) ?_)); rotate_left; focus (go_size; done))))))); (case hy => exact (Hd5.out.below (by (repeat' (first | (with_reducible exact Below.refl _ _) | (with_reducible assumption) | (with_reducible refine Below.drew ?_) | (with_reducible refine below_drewN ?_ _) | ((with_reducible refine Below.alloc ?_ ?_ _); rotate_left; focus (go_size; done)) | ((with_reducible refine Below.setCell ?_ ?_ _); rotate_left; focus (go_size; done)) | ((with_reducible refine Below.trans ?_ (Below.mono (by with_reducible assumption) ?_)); rotate_left; focus (go_size; done))))))); rintro _ w6 ⟨rfl, hb6⟩; have hb6s := hb6.size; (try simp only [World.size_alloc, World.size_setCell, World.size_drew, World.heap_drewN] at hb6s); obtain ⟨hb6c, hb6f⟩ := bcell hb6; (try have : w.heap.size < w6.heap.size := by omega); (try have : w.heap.size + 1 < w6.heap.size := by omega); (try have : w.heap.size + 1 + 1 < w6.heap.size := by omega); (try have : w.heap.size + 1 + 1 + 1 < w6.heap.size := by omega); have zr : Bk w6 (w.heap.size + 1) 26 [.bool false, .int .u64 0, .int .u64 0, .int .i64 0] := (by (repeat (first | (with_reducible assumption) | ((with_reducible refine Bk.new_ ?_); (first | rfl | (simp only [World.size_alloc, World.size_setCell, World.size_drew, World.heap_drewN]; done))) | (with_reducible refine Bk.alloc ?_ _) | (with_reducible refine Bk.drew ?_) | (with_reducible refine Bk.drewN ?_ _) | ((with_reducible refine Bk.far ?_ ?_ _); rotate_left; focus (simp only []; omega)) | ((with_reducible refine Bk.below ?_ (by with_reducible assumption) ?_); rotate_left; focus (go_size; done))))); have zr_0 := zr.cell 0 rfl; have zr_1 := zr.cell 1 rfl; have zr_2 := zr.cell 2 rfl; have zr_3 := zr.cell 3 rfl; have zr_4 := zr.frozen 0; have zr_5 := zr.frozen 1; have zr_6 := zr.frozen 2; have zr_7 := zr.frozen 3; have zrl := zr.lt; clear hb6c hb6f; (try have : w4.heap.size < w6.heap.size := by omega); (try have : w4.heap.size + 1 < w6.heap.size := by omega); (try have : w4.heap.size + 1 + 1 < w6.heap.size := by omega); (try have : w4.heap.size + 1 + 1 + 1 < w6.heap.size := by omega); (try have : w5.heap.size < w6.heap.size := by omega); (try have : w5.heap.size + 1 < w6.heap.size := by omega); (try have : w5.heap.size + 1 + 1 < w6.heap.size := by omega); (try have : w5.heap.size + 1 + 1 + 1 < w6.heap.size := by omega)))
  all_goals
    refine wp_named (fun W => Bk W (w.heap.size + 1) 26 [.bool sb, .int .u64 (wd C 1), .int .u64 (wd C 0), .int .i64 (S : Int)] ∧ Below w.heap.size w W) ⟨?h1, ?h2⟩ ?_
    case h1 => (first | ((repeat (first | (with_reducible assumption) | ((with_reducible refine Bk.new_ ?_); (first | rfl | (simp only [World.size_alloc, World.size_setCell, World.size_drew, World.heap_drewN]; done))) | (with_reducible refine Bk.alloc ?_ _) | (with_reducible refine Bk.drew ?_) | (with_reducible refine Bk.drewN ?_ _) | ((with_reducible refine Bk.far ?_ ?_ _); rotate_left; focus (simp only []; omega)) | ((with_reducible refine Bk.below ?_ (by with_reducible assumption) ?_); rotate_left; focus (go_size; done)))); done) | ((repeat (first | (with_reducible refine Bk.alloc ?_ _) | (with_reducible refine Bk.drew ?_) | ((with_reducible refine Bk.far ?_ ?_ _); rotate_left; focus (simp only []; omega)))); (refine ((((?_ : Bk _ _ _ [.bool false, .int .u64 0, .int .u64 0, .int .i64 0]).set_ 0 _).set_ 1 _).set_ 2 _).set_ 3 _); (repeat (first | (with_reducible assumption) | ((with_reducible refine Bk.new_ ?_); (first | rfl | (simp only [World.size_alloc, World.size_setCell, World.size_drew, World.heap_drewN]; done))) | (with_reducible refine Bk.alloc ?_ _) | (with_reducible refine Bk.drew ?_) | (with_reducible refine Bk.drewN ?_ _) | ((with_reducible refine Bk.far ?_ ?_ _); rotate_left; focus (simp only []; omega)) | ((with_reducible refine Bk.below ?_ (by with_reducible assumption) ?_); rotate_left; focus (go_size; done))))); done)
    case h2 => ((repeat' (first | (with_reducible exact Below.refl _ _) | (with_reducible assumption) | (with_reducible refine Below.drew ?_) | (with_reducible refine below_drewN ?_ _) | ((with_reducible refine Below.alloc ?_ ?_ _); rotate_left; focus (go_size; done)) | ((with_reducible refine Below.setCell ?_ ?_ _); rotate_left; focus (go_size; done)) | ((with_reducible refine Below.trans ?_ (Below.mono (by with_reducible assumption) ?_)); rotate_left; focus (go_size; done)))); done)
    rintro W ⟨k1, mb⟩
    have k1_0 := k1.cell 0 rfl
    have k1_1 := k1.cell 1 rfl
    have k1_2 := k1.cell 2 rfl
    have k1_3 := k1.cell 3 rfl
    have k1_4 := k1.frozen 0
    have k1_5 := k1.frozen 1
    have k1_6 := k1.frozen 2
    have k1_7 := k1.frozen 3
    go_wp2_with fail
    refine bodyPost_ret (by simp [results, Try.results38, go_sem, *]; try rfl) rfl ?_
    exact ⟨rfl, by (repeat' (first | (with_reducible exact Below.refl _ _) | (with_reducible assumption) | (with_reducible refine Below.drew ?_) | (with_reducible refine below_drewN ?_ _) | ((with_reducible refine Below.alloc ?_ ?_ _); rotate_left; focus (go_size; done)) | ((with_reducible refine Below.setCell ?_ ?_ _); rotate_left; focus (go_size; done)) | ((with_reducible refine Below.trans ?_ (Below.mono (by with_reducible assumption) ?_)); rotate_left; focus (go_size; done))))⟩
end Go.Proofs.Ythkgjodidkpaeaa
