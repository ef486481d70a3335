/- The reference: sum, difference, order, negative, size of decimals. -/
import Derived.Test.YthkgjodidkpaeaaGb
import Derived.Test.YthkgjodidkpaeaaGc
import Derived.Test.YthkgjodidkpaeaaFk
set_option linter.unusedSimpArgs false
set_option linter.unusedVariables false
namespace Go.Proofs.Ythkgjodidkpaeaa
open Go.RowKit

set_option maxHeartbeats 2000000 in
theorem forms_any (b : Bool) (c : Nat) (s : Int) (b' : Bool) (c' : Nat) (s' : Int) (hc : c < 2 ^ 128) (hc' : c' < 2 ^ 128) (w : World) :
    Calls Try.prog 63 #[.agg #[.bool b, .int .u64 (wd (c) 1), .int .u64 (wd (c) 0), .int .i64 s], .agg #[.bool b', .int .u64 (wd (c') 1), .int .u64 (wd (c') 0), .int .i64 s']] w fun e w' => e = .returned (.bool (dform b c s && dform b' c' s')) ∧ Below w.heap.size w w' := by
  have HF := Lib.hid (fun W => rform_any b c s hc W)
  have HG := Lib.hid (fun W => rform_any b' c' s' hc' W)
  generalize dform b c s = f at *
  generalize dform b' c' s' = f' at *
  generalize wd c 0 = x0 at *
  generalize wd c 1 = x1 at *
  generalize wd c' 0 = y0 at *
  generalize wd c' 1 = y1 at *
  clear hc hc'
  cases f
  · go_enter Try.func63, Try.ntmps63
    go_wp2_with fail
    refine (HF.out _).mono ?_
    rintro _ w1 ⟨rfl, hb1⟩; have hb1s := hb1.size; (try simp only [World.size_alloc, World.size_setCell, World.size_drew, World.heap_drewN] at hb1s); obtain ⟨hb1c, hb1f⟩ := bcell hb1; (try have : w.heap.size < w1.heap.size := by omega); (try have : w.heap.size + 1 < w1.heap.size := by omega); (try have : w.heap.size + 1 + 1 < w1.heap.size := by omega); (try have : w.heap.size + 1 + 1 + 1 < w1.heap.size := by omega)
    go_wp2_with fail
    go_ret
    exact ⟨rfl, by (repeat' (first | (with_reducible exact Below.refl _ _) | (with_reducible assumption) | (with_reducible refine Below.drew ?_) | (with_reducible refine below_drewN ?_ _) | ((with_reducible refine Below.alloc ?_ ?_ _); rotate_left; focus (go_size; done)) | ((with_reducible refine Below.setCell ?_ ?_ _); rotate_left; focus (go_size; done)) | ((with_reducible refine Below.trans ?_ (Below.mono (by with_reducible assumption) ?_)); rotate_left; focus (go_size; done))))⟩
  · go_enter Try.func63, Try.ntmps63
    go_wp2_with fail
    refine (HF.out _).mono ?_
    rintro _ w1 ⟨rfl, hb1⟩; have hb1s := hb1.size; (try simp only [World.size_alloc, World.size_setCell, World.size_drew, World.heap_drewN] at hb1s); obtain ⟨hb1c, hb1f⟩ := bcell hb1; (try have : w.heap.size < w1.heap.size := by omega); (try have : w.heap.size + 1 < w1.heap.size := by omega); (try have : w.heap.size + 1 + 1 < w1.heap.size := by omega); (try have : w.heap.size + 1 + 1 + 1 < w1.heap.size := by omega)
    have kb : Bk w1 (w.heap.size + 1) 26 [.bool b', .int .u64 y1, .int .u64 y0, .int .i64 s'] := by (repeat (first | (with_reducible assumption) | ((with_reducible refine Bk.new_ ?_); (first | rfl | (simp only [World.size_alloc, World.size_setCell, World.size_drew, World.heap_drewN]; done))) | (with_reducible refine Bk.alloc ?_ _) | (with_reducible refine Bk.drew ?_) | (with_reducible refine Bk.drewN ?_ _) | ((with_reducible refine Bk.far ?_ ?_ _); rotate_left; focus (simp only []; omega)) | ((with_reducible refine Bk.below ?_ (by with_reducible assumption) ?_); rotate_left; focus (go_size; done))))
    have kb_0 := kb.cell 0 rfl
    have kb_1 := kb.cell 1 rfl
    have kb_2 := kb.cell 2 rfl
    have kb_3 := kb.cell 3 rfl
    have kb_4 := kb.frozen 0
    have kb_5 := kb.frozen 1
    have kb_6 := kb.frozen 2
    have kb_7 := kb.frozen 3
    have kbl := kb.lt
    clear hb1c hb1f kb
    go_wp2_with fail
    refine (HG.out _).mono ?_
    rintro _ w2 ⟨rfl, hb2⟩; have hb2s := hb2.size; (try simp only [World.size_alloc, World.size_setCell, World.size_drew, World.heap_drewN] at hb2s); obtain ⟨hb2c, hb2f⟩ := bcell hb2; (try have : w.heap.size < w2.heap.size := by omega); (try have : w.heap.size + 1 < w2.heap.size := by omega); (try have : w.heap.size + 1 + 1 < w2.heap.size := by omega); (try have : w.heap.size + 1 + 1 + 1 < w2.heap.size := by omega)
    go_wp2_with fail
    go_ret
    exact ⟨rfl, by (repeat' (first | (with_reducible exact Below.refl _ _) | (with_reducible assumption) | (with_reducible refine Below.drew ?_) | (with_reducible refine below_drewN ?_ _) | ((with_reducible refine Below.alloc ?_ ?_ _); rotate_left; focus (go_size; done)) | ((with_reducible refine Below.setCell ?_ ?_ _); rotate_left; focus (go_size; done)) | ((with_reducible refine Below.trans ?_ (Below.mono (by with_reducible assumption) ?_)); rotate_left; focus (go_size; done))))⟩
theorem unit_tiny {c s : Nat} (h : c < B34) : Tiny (unit c s) := (Slim.of_lt (unit_lt h) (by decide)).tiny
theorem sab_slim {b b' : Bool} {x y : Nat} (hx : x < 10 ^ 52) (hy : y < 10 ^ 52) : Slim (sab b x b' y) :=
  Slim.of_lt (k := 53) (Nat.lt_of_le_of_lt (sab_le b b' x y) (Nat.lt_of_lt_of_le (Nat.add_lt_add hx hy) (by decide))) (by decide)
theorem ten_slim {k : Nat} (h : k < 900) : Slim (10 ^ k) := fun _ => ten_lt k 900 h
set_option maxHeartbeats 2000000 in
theorem order2_any (b : Bool) (c s : Nat) (b' : Bool) (c' s' : Nat) (hc : c < B34) (hc' : c' < B34) (hs : s ≤ 18) (hs' : s' ≤ 18) (h1 : c = 0 → b = false) (h2 : c' = 0 → b' = false) (w : World) :
    Calls Try.prog 64 #[.agg #[.bool b, .int .u64 (wd (c) 1), .int .u64 (wd (c) 0), .int .i64 s], .agg #[.bool b', .int .u64 (wd (c') 1), .int .u64 (wd (c') 0), .int .i64 s']] w fun e w' => e = .returned (.int .i64 (ordD b (unit c s) b' (unit c' s'))) ∧ Below w.heap.size w w' := by
  have hz1 : unit c s = 0 → b = false := fun h => h1 (by
    rcases Nat.mul_eq_zero.1 h with h | h
    · exact h
    · exact absurd h (Nat.ne_of_gt (Nat.pow_pos (by decide))))
  have hz2 : unit c' s' = 0 → b' = false := fun h => h2 (by
    rcases Nat.mul_eq_zero.1 h with h | h
    · exact h
    · exact absurd h (Nat.ne_of_gt (Nat.pow_pos (by decide))))
  rw [ord_sum b b' _ _ hz1 hz2]
  have HU := Lib.hid (fun W => units_any b c s (Nat.lt_trans hc B34_lt) hs W)
  have HV := Lib.hid (fun W => units_any b' c' s' (Nat.lt_trans hc' B34_lt) hs' W)
  have HS := Lib.hid (fun W u v hu hv => rsum_any b (unit c s) (!b') (unit c' s') u v W hu hv (unit_tiny hc) (unit_tiny hc'))
  unfold RetSum at HS
  unfold RetUnits at HU HV
  generalize sab b (unit c s) (!b') (unit c' s') = U at *
  generalize sgn b (unit c s) (!b') (unit c' s') = N at *
  generalize unit c s = X at *
  generalize unit c' s' = Y at *
  generalize wd c 0 = x0 at *
  generalize wd c 1 = x1 at *
  generalize wd c' 0 = y0 at *
  generalize wd c' 1 = y1 at *
  obtain ⟨r, hr⟩ : ∃ r : Int, r = if U = 0 then 0 else if N = true then -1 else 1 := ⟨_, rfl⟩
  rw [← hr]
  have HR := Lib.hid hr
  clear hc hc' h1 h2 hz1 hz2 hs hs' hr
  go_enter Try.func64, Try.ntmps64
  go_wp2_with fail
  refine (HU.out _).mono ?_
  rintro _ w1 ⟨v1, rfl, d1, hb1⟩
  have hb1s := hb1.size
  have Hd1 := Lib.hid d1
  have kb : Bk w1 (w.heap.size + 1) 26 [.bool b', .int .u64 y1, .int .u64 y0, .int .i64 (s' : Int)] := by (repeat (first | (with_reducible assumption) | ((with_reducible refine Bk.new_ ?_); (first | rfl | (simp only [World.size_alloc, World.size_setCell, World.size_drew, World.heap_drewN]; done))) | (with_reducible refine Bk.alloc ?_ _) | (with_reducible refine Bk.drew ?_) | (with_reducible refine Bk.drewN ?_ _) | ((with_reducible refine Bk.far ?_ ?_ _); rotate_left; focus (simp only []; omega)) | ((with_reducible refine Bk.below ?_ (by with_reducible assumption) ?_); rotate_left; focus (go_size; done))))
  have kb_0 := kb.cell 0 rfl
  have kb_1 := kb.cell 1 rfl
  have kb_2 := kb.cell 2 rfl
  have kb_3 := kb.cell 3 rfl
  have kb_4 := kb.frozen 0
  have kb_5 := kb.frozen 1
  have kb_6 := kb.frozen 2
  have kb_7 := kb.frozen 3
  have kbl := kb.lt
  clear d1 kb
  go_wp2_with fail
  refine (HV.out _).mono ?_
  rintro _ w2 ⟨v2, rfl, d2, hb2⟩
  have hb2s := hb2.size
  have Hd2 := Lib.hid d2
  clear d2
  go_wp2_with fail
  refine (HS.out _ _ _ (Hd1.out.below hb2) Hd2.out).mono ?_
  rintro _ w3 ⟨v3, rfl, d3, hb3⟩
  have hb3s := hb3.size
  obtain ⟨A, k, c, rfl, hk, hkc⟩ := dg_len d3
  clear d3
  by_cases h0 : U = 0
  · have e := HR.out
    rw [if_pos h0] at e
    obtain rfl : k = 0 := hk.2 h0
    have E := Lib.hid e
    clear h0 hk e
    go_wp2_with fail
    go_ret
    exact ⟨ret_int E.out.symm, by (repeat' (first | (with_reducible exact Below.refl _ _) | (with_reducible assumption) | (with_reducible refine Below.drew ?_) | (with_reducible refine below_drewN ?_ _) | ((with_reducible refine Below.alloc ?_ ?_ _); rotate_left; focus (go_size; done)) | ((with_reducible refine Below.setCell ?_ ?_ _); rotate_left; focus (go_size; done)) | ((with_reducible refine Below.trans ?_ (Below.mono (by with_reducible assumption) ?_)); rotate_left; focus (go_size; done))))⟩
  · have e := HR.out
    rw [if_neg h0] at e
    have hk1 : ((k : Int) == 0) = false := by rw [beq_eq_false_iff_ne]; have := mt hk.1 h0; omega
    have E := Lib.hid e
    clear h0 hk e HR
    cases N
    · go_wp2_with fail
      go_ret
      exact ⟨ret_int E.out.symm, by (repeat' (first | (with_reducible exact Below.refl _ _) | (with_reducible assumption) | (with_reducible refine Below.drew ?_) | (with_reducible refine below_drewN ?_ _) | ((with_reducible refine Below.alloc ?_ ?_ _); rotate_left; focus (go_size; done)) | ((with_reducible refine Below.setCell ?_ ?_ _); rotate_left; focus (go_size; done)) | ((with_reducible refine Below.trans ?_ (Below.mono (by with_reducible assumption) ?_)); rotate_left; focus (go_size; done))))⟩
    · go_wp2_with fail
      go_ret
      exact ⟨ret_int E.out.symm, by (repeat' (first | (with_reducible exact Below.refl _ _) | (with_reducible assumption) | (with_reducible refine Below.drew ?_) | (with_reducible refine below_drewN ?_ _) | ((with_reducible refine Below.alloc ?_ ?_ _); rotate_left; focus (go_size; done)) | ((with_reducible refine Below.setCell ?_ ?_ _); rotate_left; focus (go_size; done)) | ((with_reducible refine Below.trans ?_ (Below.mono (by with_reducible assumption) ?_)); rotate_left; focus (go_size; done))))⟩
end Go.Proofs.Ythkgjodidkpaeaa
