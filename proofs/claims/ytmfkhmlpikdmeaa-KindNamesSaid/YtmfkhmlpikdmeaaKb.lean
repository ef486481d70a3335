/- The reference of the layer of types: a sample of a type, what fits, what lies under what, and the join, as calls that reckon. -/
import Derived.Test.YtmfkhmlpikdmeaaKa
namespace Go.Proofs.Ytmfkhmlpikdmeaa
open Go.RowKit

def OneItem (w : World) (L : Value) (k1 : Int) : Prop := ∃ b, L = .slice (some ⟨b, 0, none⟩) 1 1 ∧ b < w.heap.size ∧ w.cell? ⟨b, 0, none⟩ = some (.int .i64 k1)

set_option maxHeartbeats 400000 in
theorem sample_any (w : World) : Calls Try.prog 29 #[.agg #[.int .i64 0, .int .i64 0]] w fun e w' => e = .returned (.agg #[.int .i64 6, .bool false, .bool false, .int .u64 0, .int .u64 0, .int .i64 0, .string ⟨#[]⟩, .int .i64 0, .slice none 0 0, .slice none 0 0]) ∧ Below w.heap.size w w' := by
  go_enter Try.func29, Try.ntmps29
  go_wp2
  go_returns
  exact ⟨rfl, by (repeat' (first | (with_reducible exact Below.refl _ _) | (with_reducible assumption) | (with_reducible refine Below.drew ?_) | (with_reducible refine below_drewN ?_ _) | ((with_reducible refine Below.alloc ?_ ?_ _); rotate_left; focus (go_size; done)) | ((with_reducible refine Below.setCell ?_ ?_ _); rotate_left; focus (go_size; done)) | ((with_reducible refine Below.trans ?_ (Below.mono (by with_reducible assumption) ?_)); rotate_left; focus (go_size; done))))⟩
set_option maxHeartbeats 400000 in
theorem sample_plain (k : Int) (h1 : 1 ≤ k) (h2 : k ≤ 3) (w : World) : Calls Try.prog 29 #[.agg #[.int .i64 k, .int .i64 0]] w fun e w' => e = .returned (.agg #[.int .i64 k, .bool false, .bool false, .int .u64 0, .int .u64 0, .int .i64 0, .string ⟨#[]⟩, .int .i64 0, .slice none 0 0, .slice none 0 0]) ∧ Below w.heap.size w w' := by
  go_enter Try.func29, Try.ntmps29
  go_wp2
  go_returns
  exact ⟨rfl, by (repeat' (first | (with_reducible exact Below.refl _ _) | (with_reducible assumption) | (with_reducible refine Below.drew ?_) | (with_reducible refine below_drewN ?_ _) | ((with_reducible refine Below.alloc ?_ ?_ _); rotate_left; focus (go_size; done)) | ((with_reducible refine Below.setCell ?_ ?_ _); rotate_left; focus (go_size; done)) | ((with_reducible refine Below.trans ?_ (Below.mono (by with_reducible assumption) ?_)); rotate_left; focus (go_size; done))))⟩
set_option maxHeartbeats 400000 in
theorem sample_date (w : World) : Calls Try.prog 29 #[.agg #[.int .i64 4, .int .i64 0]] w fun e w' => e = .returned (.agg #[.int .i64 4, .bool false, .bool false, .int .u64 0, .int .u64 0, .int .i64 0, .string ⟨#[]⟩, .int .i64 1, .slice none 0 0, .slice none 0 0]) ∧ Below w.heap.size w w' := by
  go_enter Try.func29, Try.ntmps29
  go_wp2
  go_returns
  exact ⟨rfl, by (repeat' (first | (with_reducible exact Below.refl _ _) | (with_reducible assumption) | (with_reducible refine Below.drew ?_) | (with_reducible refine below_drewN ?_ _) | ((with_reducible refine Below.alloc ?_ ?_ _); rotate_left; focus (go_size; done)) | ((with_reducible refine Below.setCell ?_ ?_ _); rotate_left; focus (go_size; done)) | ((with_reducible refine Below.trans ?_ (Below.mono (by with_reducible assumption) ?_)); rotate_left; focus (go_size; done))))⟩
set_option maxHeartbeats 400000 in
theorem sample_lists (w : World) : Calls Try.prog 29 #[.agg #[.int .i64 5, .int .i64 0]] w fun e w' => ∃ L, e = .returned (.agg #[.int .i64 5, .bool false, .bool false, .int .u64 0, .int .u64 0, .int .i64 0, .string ⟨#[]⟩, .int .i64 0, L, .slice none 0 0]) ∧ OneItem w' L 5 ∧ Below w.heap.size w w' := by
  go_enter Try.func29, Try.ntmps29
  go_wp2
  go_returns
  refine ⟨_, rfl, ⟨_, rfl, ?_, ?_⟩, by (repeat' (first | (with_reducible exact Below.refl _ _) | (with_reducible assumption) | (with_reducible refine Below.drew ?_) | (with_reducible refine below_drewN ?_ _) | ((with_reducible refine Below.alloc ?_ ?_ _); rotate_left; focus (go_size; done)) | ((with_reducible refine Below.setCell ?_ ?_ _); rotate_left; focus (go_size; done)) | ((with_reducible refine Below.trans ?_ (Below.mono (by with_reducible assumption) ?_)); rotate_left; focus (go_size; done))))⟩
  · go_size
  · simp [go_sem]
set_option maxHeartbeats 400000 in
theorem sample_list (o : Int) (h1 : 1 ≤ o) (h2 : o ≤ 4) (w : World) : Calls Try.prog 29 #[.agg #[.int .i64 5, .int .i64 o]] w fun e w' => ∃ L, e = .returned (.agg #[.int .i64 5, .bool false, .bool false, .int .u64 0, .int .u64 0, .int .i64 0, .string ⟨#[]⟩, .int .i64 0, L, .slice none 0 0]) ∧ OneItem w' L o ∧ Below w.heap.size w w' := by
  by_cases h4 : o = 4
  · subst h4
    go_enter Try.func29, Try.ntmps29
    go_wp2
    go_returns
    refine ⟨_, rfl, ⟨_, rfl, ?_, ?_⟩, by (repeat' (first | (with_reducible exact Below.refl _ _) | (with_reducible assumption) | (with_reducible refine Below.drew ?_) | (with_reducible refine below_drewN ?_ _) | ((with_reducible refine Below.alloc ?_ ?_ _); rotate_left; focus (go_size; done)) | ((with_reducible refine Below.setCell ?_ ?_ _); rotate_left; focus (go_size; done)) | ((with_reducible refine Below.trans ?_ (Below.mono (by with_reducible assumption) ?_)); rotate_left; focus (go_size; done))))⟩
    · go_size
    · simp [go_sem]
  · have h3 : o ≤ 3 := by omega
    go_enter Try.func29, Try.ntmps29
    go_wp2
    go_returns
    refine ⟨_, rfl, ⟨_, rfl, ?_, ?_⟩, by (repeat' (first | (with_reducible exact Below.refl _ _) | (with_reducible assumption) | (with_reducible refine Below.drew ?_) | (with_reducible refine below_drewN ?_ _) | ((with_reducible refine Below.alloc ?_ ?_ _); rotate_left; focus (go_size; done)) | ((with_reducible refine Below.setCell ?_ ?_ _); rotate_left; focus (go_size; done)) | ((with_reducible refine Below.trans ?_ (Below.mono (by with_reducible assumption) ?_)); rotate_left; focus (go_size; done))))⟩
    · go_size
    · simp [go_sem]

def fitsN (k tk : Int) : Bool := decide (k = 0) || decide (tk = 0) || decide (k = tk)
set_option maxHeartbeats 400000 in
theorem fits_nil (k D tk to : Int) (w : World) : Calls Try.prog 28 #[.agg #[.int .i64 k, .bool false, .bool false, .int .u64 0, .int .u64 0, .int .i64 0, .string ⟨#[]⟩, .int .i64 D, .slice none 0 0, .slice none 0 0], .agg #[.int .i64 tk, .int .i64 to]] w fun e w' => e = .returned (.bool (fitsN k tk)) ∧ Below w.heap.size w w' := by
  go_enter Try.func28, Try.ntmps28
  go_wp2
  all_goals try go_rounds 1
  all_goals go_ret
  all_goals refine ⟨?_, by (repeat' (first | (with_reducible exact Below.refl _ _) | (with_reducible assumption) | (with_reducible refine Below.drew ?_) | (with_reducible refine below_drewN ?_ _) | ((with_reducible refine Below.alloc ?_ ?_ _); rotate_left; focus (go_size; done)) | ((with_reducible refine Below.setCell ?_ ?_ _); rotate_left; focus (go_size; done)) | ((with_reducible refine Below.trans ?_ (Below.mono (by with_reducible assumption) ?_)); rotate_left; focus (go_size; done))))⟩
  all_goals simp [fitsN]
  all_goals try simp_all
  all_goals omega
def fitsO (k1 tk to : Int) : Bool := decide (tk = 0) || (decide (tk = 5) && (decide (to = 0) || decide (k1 = to)))
set_option maxHeartbeats 400000 in
theorem fits_one (k1 D tk to : Int) (L : Value) (w : World) (h1 : k1 ≠ 0) (hL : OneItem w L k1) : Calls Try.prog 28 #[.agg #[.int .i64 5, .bool false, .bool false, .int .u64 0, .int .u64 0, .int .i64 0, .string ⟨#[]⟩, .int .i64 D, L, .slice none 0 0], .agg #[.int .i64 tk, .int .i64 to]] w fun e w' => e = .returned (.bool (fitsO k1 tk to)) ∧ Below w.heap.size w w' := by
  obtain ⟨b, rfl, hlt, hc⟩ := hL
  by_cases h0 : tk = 0
  · subst h0
    go_enter Try.func28, Try.ntmps28
    go_wp2
    go_ret
    exact ⟨by simp [fitsO], by (repeat' (first | (with_reducible exact Below.refl _ _) | (with_reducible assumption) | (with_reducible refine Below.drew ?_) | (with_reducible refine below_drewN ?_ _) | ((with_reducible refine Below.alloc ?_ ?_ _); rotate_left; focus (go_size; done)) | ((with_reducible refine Below.setCell ?_ ?_ _); rotate_left; focus (go_size; done)) | ((with_reducible refine Below.trans ?_ (Below.mono (by with_reducible assumption) ?_)); rotate_left; focus (go_size; done))))⟩
  by_cases h5 : tk = 5
  · subst h5
    by_cases hto : to = 0
    · subst hto
      go_enter Try.func28, Try.ntmps28
      go_wp2
      go_rounds 1
      go_ret
      exact ⟨by simp [fitsO], by (repeat' (first | (with_reducible exact Below.refl _ _) | (with_reducible assumption) | (with_reducible refine Below.drew ?_) | (with_reducible refine below_drewN ?_ _) | ((with_reducible refine Below.alloc ?_ ?_ _); rotate_left; focus (go_size; done)) | ((with_reducible refine Below.setCell ?_ ?_ _); rotate_left; focus (go_size; done)) | ((with_reducible refine Below.trans ?_ (Below.mono (by with_reducible assumption) ?_)); rotate_left; focus (go_size; done))))⟩
    · have e1 : (to != 0) = true := by simpa using hto
      have e2 : (k1 != 0) = true := by simpa using h1
      by_cases h6 : k1 = to
      · have e3 : (k1 != to) = false := by simpa using h6
        have H6 := Lib.hid h6
        clear h6 hto h1
        go_enter Try.func28, Try.ntmps28
        go_wp2
        refine wp_loop_rounds 2 ?_
        rw [rounds_succ]
        go_wp2
        go_quiet (fail)
        go_wp2
        rw [rounds_succ]
        go_wp2
        go_ret
        exact ⟨by simp [fitsO, H6.out], by (repeat' (first | (with_reducible exact Below.refl _ _) | (with_reducible assumption) | (with_reducible refine Below.drew ?_) | (with_reducible refine below_drewN ?_ _) | ((with_reducible refine Below.alloc ?_ ?_ _); rotate_left; focus (go_size; done)) | ((with_reducible refine Below.setCell ?_ ?_ _); rotate_left; focus (go_size; done)) | ((with_reducible refine Below.trans ?_ (Below.mono (by with_reducible assumption) ?_)); rotate_left; focus (go_size; done))))⟩
      · have e3 : (k1 != to) = true := by simpa using h6
        have H6 := Lib.hid h6
        have H0 := Lib.hid hto
        clear h6 hto h1
        go_enter Try.func28, Try.ntmps28
        go_wp2
        refine wp_loop_rounds 2 ?_
        rw [rounds_succ]
        go_wp2
        go_quiet (fail)
        go_wp2
        go_ret
        exact ⟨by simp [fitsO, H6.out, H0.out], by (repeat' (first | (with_reducible exact Below.refl _ _) | (with_reducible assumption) | (with_reducible refine Below.drew ?_) | (with_reducible refine below_drewN ?_ _) | ((with_reducible refine Below.alloc ?_ ?_ _); rotate_left; focus (go_size; done)) | ((with_reducible refine Below.setCell ?_ ?_ _); rotate_left; focus (go_size; done)) | ((with_reducible refine Below.trans ?_ (Below.mono (by with_reducible assumption) ?_)); rotate_left; focus (go_size; done))))⟩
  · have e5 : (5 != tk) = true := by simp; omega
    have e0 : (tk == 0) = false := by simpa using h0
    have H0 := Lib.hid h0
    have H5 := Lib.hid h5
    clear h0 h5
    go_enter Try.func28, Try.ntmps28
    go_wp2
    go_ret
    exact ⟨by simp [fitsO, H0.out, H5.out], by (repeat' (first | (with_reducible exact Below.refl _ _) | (with_reducible assumption) | (with_reducible refine Below.drew ?_) | (with_reducible refine below_drewN ?_ _) | ((with_reducible refine Below.alloc ?_ ?_ _); rotate_left; focus (go_size; done)) | ((with_reducible refine Below.setCell ?_ ?_ _); rotate_left; focus (go_size; done)) | ((with_reducible refine Below.trans ?_ (Below.mono (by with_reducible assumption) ?_)); rotate_left; focus (go_size; done))))⟩
end Go.Proofs.Ytmfkhmlpikdmeaa
