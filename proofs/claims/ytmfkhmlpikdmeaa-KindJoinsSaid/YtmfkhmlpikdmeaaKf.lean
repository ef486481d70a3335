/- The type of a name: the two calls. -/
import Derived.Test.YtmfkhmlpikdmeaaKe
namespace Go.Proofs.Ytmfkhmlpikdmeaa
open Go.RowKit

def ofR : Option Nat → Int × Int × Int
  | none => (0, 0, 8)
  | some i => ((ofT i).1, (ofT i).2, 0)
def parseT (l : List UInt8) : Option Nat := (List.range 10).find? fun i => nameS i == l
theorem parseT_none {l : List UInt8} (h : ∀ j, j < 10 → nameS j ≠ l) : parseT l = none := by
  unfold parseT
  rw [List.find?_eq_none]
  intro x hx
  simpa using h x (by simpa using hx)
theorem parseT_some {l : List UInt8} (n : Nat) (hn : n < 10) (h : ∀ j, j < n → nameS j ≠ l) (e : nameS n = l) : parseT l = some n := by
  unfold parseT
  rw [List.find?_range_eq_some]
  refine ⟨by simpa using e, by simpa using hn, ?_⟩
  intro j hj
  simpa using h j hj

set_option maxHeartbeats 1000000 in
theorem rparse_any (l : List UInt8) (w : World) : Calls Try.prog 10 #[.string ⟨l.toArray⟩] w fun e w' => e = .returned (.tuple #[.agg #[.int .i64 (ofR (parseT l)).1, .int .i64 (ofR (parseT l)).2.1], .int .i64 (ofR (parseT l)).2.2]) ∧ Below w.heap.size w w' := by
  go_enter Try.func10, Try.ntmps10
  go_wp2
  go_loopg [4] 10 (fun k i wr => ∃ n : Nat, k + n = 10 ∧ i = .int .i64 n ∧ w.heap.size + 1 ≤ wr.heap.size ∧ Below w.heap.size w wr ∧
    Bk wr w.heap.size 23 [.int .i64 0, .int .i64 0] ∧ ∀ j, j < n → nameS j ≠ l)
  case atStart =>
    exact ⟨0, rfl, rfl, by go_size, by (repeat' (first | (with_reducible exact Below.refl _ _) | (with_reducible assumption) | (with_reducible refine Below.drew ?_) | (with_reducible refine below_drewN ?_ _) | ((with_reducible refine Below.alloc ?_ ?_ _); rotate_left; focus (go_size; done)) | ((with_reducible refine Below.setCell ?_ ?_ _); rotate_left; focus (go_size; done)) | ((with_reducible refine Below.trans ?_ (Below.mono (by with_reducible assumption) ?_)); rotate_left; focus (go_size; done)))), by (repeat (first | (with_reducible assumption) | ((with_reducible refine Bk.new_ ?_); (first | rfl | (simp only [World.size_alloc, World.size_setCell, World.size_drew]; done))) | (with_reducible refine Bk.alloc ?_ _) | (with_reducible refine Bk.drew ?_) | ((with_reducible refine Bk.far ?_ ?_ _); rotate_left; focus (simp only []; omega)) | ((with_reducible refine Bk.below ?_ (by with_reducible assumption) ?_); rotate_left; focus (go_size; done)))), fun j hj => absurd hj (by omega)⟩
  case round =>
    obtain ⟨n, hk, rfl, hsz, hbel, k0, hno⟩ := hrel
    have HK := Lib.hid hk
    have HNO := Lib.hid hno
    have c00 := k0.cell 0 rfl
    have c01 := k0.cell 1 rfl
    have f00 := k0.frozen 0
    have f01 := k0.frozen 1
    have hn : n ≤ 10 := by omega
    clear hk hno
    (try have : w.heap.size < wr.heap.size := by omega); (try have : w.heap.size + 1 < wr.heap.size := by omega); (try have : w.heap.size + 1 + 1 < wr.heap.size := by omega); (try have : w.heap.size + 1 + 1 + 1 < wr.heap.size := by omega)
    by_cases hlt : n < 10
    · have h0 : (0 : Int) ≤ (n : Int) := by omega
      have h1 : (n : Int) < 10 := by omega
      have hnm := fun W => names_any n h0 h1 W
      have hof := fun W => of_any n h0 h1 W
      rw [Int.toNat_natCast] at hnm
      have HNM := Lib.hid hnm
      have HOF := Lib.hid hof
      clear hnm hof
      go_wp2_with (first
        | ((go_at_call 19; with_reducible refine (HNM.out _).mono ?_); rintro _ w1 ⟨rfl, hb1⟩; have hb1s := hb1.size; (try simp only [World.size_alloc, World.size_setCell, World.size_drew] at hb1s); obtain ⟨hb1c, hb1f⟩ := bcell hb1; (try have : w.heap.size < w1.heap.size := by omega); (try have : w.heap.size + 1 < w1.heap.size := by omega); (try have : w.heap.size + 1 + 1 < w1.heap.size := by omega); (try have : w.heap.size + 1 + 1 + 1 < w1.heap.size := by omega))
        | ((go_at_call 20; with_reducible refine (HOF.out _).mono ?_); rintro _ w2 ⟨rfl, hb2⟩; have hb2s := hb2.size; (try simp only [World.size_alloc, World.size_setCell, World.size_drew] at hb2s); obtain ⟨hb2c, hb2f⟩ := bcell hb2; (try have : w.heap.size < w2.heap.size := by omega); (try have : w.heap.size + 1 < w2.heap.size := by omega); (try have : w.heap.size + 1 + 1 < w2.heap.size := by omega); (try have : w.heap.size + 1 + 1 + 1 < w2.heap.size := by omega)))
      · have e := parseT_some n hlt HNO.out (by simpa using (by assumption : (nameS n == l) = true))
        refine bodyPost_ret (by simp [results, Try.results10, go_sem, *]; try rfl) rfl ?_
        rw [e]
        exact ⟨rfl, by (repeat' (first | (with_reducible exact Below.refl _ _) | (with_reducible assumption) | (with_reducible refine Below.drew ?_) | (with_reducible refine below_drewN ?_ _) | ((with_reducible refine Below.alloc ?_ ?_ _); rotate_left; focus (go_size; done)) | ((with_reducible refine Below.setCell ?_ ?_ _); rotate_left; focus (go_size; done)) | ((with_reducible refine Below.trans ?_ (Below.mono (by with_reducible assumption) ?_)); rotate_left; focus (go_size; done))))⟩
      · go_roundg (gk - 1)
        case measure => have := HK.out; omega
        case rel =>
          refine ⟨n + 1, by have := HK.out; omega, by go_num, by go_size, by (repeat' (first | (with_reducible exact Below.refl _ _) | (with_reducible assumption) | (with_reducible refine Below.drew ?_) | (with_reducible refine below_drewN ?_ _) | ((with_reducible refine Below.alloc ?_ ?_ _); rotate_left; focus (go_size; done)) | ((with_reducible refine Below.setCell ?_ ?_ _); rotate_left; focus (go_size; done)) | ((with_reducible refine Below.trans ?_ (Below.mono (by with_reducible assumption) ?_)); rotate_left; focus (go_size; done)))), by (repeat (first | (with_reducible assumption) | ((with_reducible refine Bk.new_ ?_); (first | rfl | (simp only [World.size_alloc, World.size_setCell, World.size_drew]; done))) | (with_reducible refine Bk.alloc ?_ _) | (with_reducible refine Bk.drew ?_) | ((with_reducible refine Bk.far ?_ ?_ _); rotate_left; focus (simp only []; omega)) | ((with_reducible refine Bk.below ?_ (by with_reducible assumption) ?_); rotate_left; focus (go_size; done)))), ?_⟩
          intro j hj
          rcases Nat.lt_or_ge j n with h | h
          · exact HNO.out j h
          · obtain rfl : j = n := by omega
            exact by simpa using (by assumption : (nameS j == l) = false)
    · obtain rfl : n = 10 := by omega
      have e : parseT l = none := parseT_none HNO.out
      go_wp2
      refine bodyPost_ret (by simp [results, Try.results10, go_sem, *]; try rfl) rfl ?_
      rw [e]
      exact ⟨rfl, by (repeat' (first | (with_reducible exact Below.refl _ _) | (with_reducible assumption) | (with_reducible refine Below.drew ?_) | (with_reducible refine below_drewN ?_ _) | ((with_reducible refine Below.alloc ?_ ?_ _); rotate_left; focus (go_size; done)) | ((with_reducible refine Below.setCell ?_ ?_ _); rotate_left; focus (go_size; done)) | ((with_reducible refine Below.trans ?_ (Below.mono (by with_reducible assumption) ?_)); rotate_left; focus (go_size; done))))⟩

/-- what is left between the list's brackets, and whether there are such -/
def innerL (l : List UInt8) : List UInt8 := Lib.trimPrefix l listS
theorem parse_low {l : List UInt8} (h : Lib.hasPrefix l listS = false) (n : Nat) (hn : n < 5) (e : simpleS n = l) (hno : ∀ j, j < n → simpleS j ≠ l) : parseT l = some n := by
  refine parseT_some n (by omega) ?_ (by unfold nameS; rw [if_pos hn, e])
  intro j hj
  unfold nameS
  rw [if_pos (by omega)]
  exact hno j hj
theorem parse_no {l : List UInt8} (h : Lib.hasPrefix l listS = false) (hno : ∀ j, j < 5 → simpleS j ≠ l) : parseT l = none := by
  refine parseT_none fun j hj => ?_
  unfold nameS
  split
  · exact hno j (by assumption)
  · intro e
    rw [← e] at h
    simp [Lib.hasPrefix, listS] at h
theorem simple_no_list (j : Nat) (q : List UInt8) : simpleS j ≠ listS ++ q := by
  intro e
  unfold simpleS at e
  split at e <;> simp [listS] at e
theorem parse_open {l : List UInt8} (h : Lib.hasPrefix l listS = true) (h2 : Lib.hasSuffix (Lib.trimPrefix l listS) [62] = false) : parseT l = none := by
  refine parseT_none fun j hj => ?_
  have h' : listS <+: l := List.isPrefixOf_iff_prefix.1 h
  obtain ⟨q, rfl⟩ := h'
  have e1 : Lib.trimPrefix (listS ++ q) listS = q := by unfold Lib.trimPrefix; rw [if_pos h]; simp
  rw [e1] at h2
  unfold nameS
  split
  · exact simple_no_list j q
  · intro e
    rw [List.append_assoc] at e
    have e := List.append_cancel_left e
    rw [← e] at h2
    have : ([62] : List UInt8) <:+ simpleS (j - 5) ++ [62] := List.suffix_append _ _
    rw [Lib.hasSuffix, List.isSuffixOf_iff_suffix.2 this] at h2
    cases h2
theorem parse_shape {l : List UInt8} (h : Lib.hasPrefix l listS = true) (h2 : Lib.hasSuffix (Lib.trimPrefix l listS) [62] = true) :
    l = listS ++ Lib.trimSuffix (Lib.trimPrefix l listS) [62] ++ [62] := by
  have h' : listS <+: l := List.isPrefixOf_iff_prefix.1 h
  obtain ⟨q, rfl⟩ := h'
  have e1 : Lib.trimPrefix (listS ++ q) listS = q := by unfold Lib.trimPrefix; rw [if_pos h]; simp
  rw [e1] at h2 ⊢
  have h'' : [62] <:+ q := List.isSuffixOf_iff_suffix.1 h2
  obtain ⟨r, rfl⟩ := h''
  have e2 : Lib.trimSuffix (r ++ [62]) [62] = r := by unfold Lib.trimSuffix; rw [if_pos h2]; simp
  rw [e2, List.append_assoc]
theorem parse_high {l q : List UInt8} (hl : l = listS ++ q ++ [62]) (n : Nat) (hn : n < 5) (e : simpleS n = q) (hno : ∀ j, j < n → simpleS j ≠ q) : parseT l = some (5 + n) := by
  subst hl
  refine parseT_some (5 + n) (by omega) ?_ (by unfold nameS; rw [if_neg (by omega), show 5 + n - 5 = n by omega, e])
  intro j hj
  unfold nameS
  split
  · rw [List.append_assoc]; exact simple_no_list j _
  · intro e2
    have e2 := List.append_cancel_right e2
    have e2 := List.append_cancel_left e2
    exact hno (j - 5) (by omega) e2
theorem parse_high_no {l q : List UInt8} (hl : l = listS ++ q ++ [62]) (hno : ∀ j, j < 5 → simpleS j ≠ q) : parseT l = none := by
  subst hl
  refine parseT_none fun j hj => ?_
  unfold nameS
  split
  · rw [List.append_assoc]; exact simple_no_list j _
  · intro e2
    have e2 := List.append_cancel_right e2
    have e2 := List.append_cancel_left e2
    exact hno (j - 5) (by omega) e2
end Go.Proofs.Ytmfkhmlpikdmeaa
