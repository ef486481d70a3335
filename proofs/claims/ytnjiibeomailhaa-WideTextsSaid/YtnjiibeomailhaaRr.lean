/- A number read from its decimal text, by the document. -/
import Derived.Test.YtnjiibeomailhaaTd
import Derived.Test.YtnjiibeomailhaaRs
set_option linter.unusedSimpArgs false
set_option linter.unusedVariables false
namespace Go.Proofs.Ytnjiibeomailhaa
open Go.RowKit

/-- what reading a text answers -/
def rdN (l : List UInt8) : Nat := fitW (dvb l 0)
def rdE (l : List UInt8) : Int := over (dvb l 0)
theorem okB_ne {l : List UInt8} (h : okB l = true) : l ≠ [] := by
  unfold okB at h
  simp only [Bool.and_eq_true, decide_eq_true_eq] at h
  exact h.1.1
theorem okB_lead {l : List UInt8} (h : okB l = true) : l.length ≤ 1 ∨ (l.headD 0).toNat ≠ 48 := by
  unfold okB at h
  simp only [Bool.and_eq_true, Bool.or_eq_true, decide_eq_true_eq] at h
  exact h.1.2
theorem okB_dig {l : List UInt8} (h : okB l = true) {j : Nat} (hj : j < l.length) : 48 ≤ l[j].toNat ∧ l[j].toNat ≤ 57 := by
  unfold okB at h
  simp only [Bool.and_eq_true, List.all_eq_true] at h
  have := h.2 l[j] (List.getElem_mem hj)
  simpa [isD] using this
theorem okB_no {l : List UInt8} (h : okB l = false) : l = [] ∨ (1 < l.length ∧ (l.headD 0).toNat = 48) ∨ (¬ (1 < l.length ∧ (l.headD 0).toNat = 48) ∧ l ≠ [] ∧ ∃ j, ∃ hj : j < l.length, ¬ (48 ≤ l[j].toNat ∧ l[j].toNat ≤ 57)) := by
  by_cases h0 : l = []
  · exact .inl h0
  by_cases h1 : 1 < l.length ∧ (l.headD 0).toNat = 48
  · exact .inr (.inl h1)
  refine .inr (.inr ⟨h1, h0, ?_⟩)
  have ha : l.all isD = false := by
    unfold okB at h
    have e1 : decide (l ≠ []) = true := by simpa using h0
    have e2 : (decide (l.length ≤ 1) || decide ((l.headD 0).toNat ≠ 48)) = true := by
      rw [Bool.or_eq_true, decide_eq_true_eq, decide_eq_true_eq]
      by_cases h2 : l.length ≤ 1
      · exact .inl h2
      · exact .inr (fun e => h1 ⟨by omega, e⟩)
    rw [e1, e2, Bool.true_and, Bool.true_and] at h
    exact h
  rw [← Bool.not_eq_true, List.all_eq_true] at ha
  have ⟨c, hc⟩ := Classical.not_forall.1 ha
  have ⟨hm, hn⟩ := Classical.not_imp.1 hc
  obtain ⟨j, hj, rfl⟩ := List.getElem_of_mem hm
  exact ⟨j, hj, by simpa [isD] using hn⟩
/-- of more than 39 digits: too great -/
theorem rd_long {l : List UInt8} (h : okB l = true) (hl : 39 < l.length) : rdN l = 0 ∧ rdE l = 3 := by
  have hb : 10 ^ 39 ≤ dvb l 0 := by
    cases l with
    | nil => simp at hl
    | cons c r =>
      have h1 : 48 ≤ c.toNat ∧ c.toNat ≤ 57 := okB_dig h (j := 0) (by simp)
      have h2 := okB_lead h
      have h3 : c.toNat ≠ 48 := by
        rcases h2 with h2 | h2
        · simp only [List.length_cons] at hl h2; omega
        · exact h2
      have h4 := dvb_low r (0 * 10 + (c.toNat - 48)) 0 (by rw [Nat.pow_zero]; omega)
      rw [Nat.zero_add] at h4
      simp only [List.length_cons] at hl
      exact Nat.le_trans (pow_mono10 (by omega)) h4
  have h2 : ¬ dvb l 0 < 2 ^ 128 := by
    have h3 : (2 : Nat) ^ 128 < 10 ^ 39 := by decide
    omega
  unfold rdN rdE fitW over
  rw [if_neg h2, if_neg h2]
  exact ⟨rfl, rfl⟩
theorem dvb_lin (l : List UInt8) (a : Nat) : dvb l a = a * 10 ^ l.length + dvb l 0 := by
  induction l generalizing a with
  | nil => simp [dvb]
  | cons d r ih =>
    simp only [dvb, List.length_cons]
    rw [ih (a * 10 + (d.toNat - 48)), ih (0 * 10 + (d.toNat - 48)), Nat.pow_succ]
    grind
theorem at_data (s : ByteArray) (j : Nat) (h : j < s.size) (h' : j < s.data.toList.length) : s.data.toList[j] = s[j] := rfl
theorem head_data (s : ByteArray) (h : 0 < s.size) : s.data.toList.headD 0 = s[0] := by
  have h' : 0 < s.data.toList.length := by simpa using h
  have key : ∀ (l : List UInt8) (hl : 0 < l.length), l.headD 0 = l[0] := by
    intro l hl
    cases l with
    | nil => cases hl
    | cons a r => rfl
  rw [key _ h']; rfl
theorem Bk.grown {w w' : World} {g : Nat} {t : TypeId} {cs : List Value} {row : Option Nat} (h : Bk w g t cs) (hb : w.grownBy w' row) (hg : some g ≠ row) : Bk w' g t cs := (hb.block g h.lt hg).trans h
set_option maxHeartbeats 2000000 in
set_option maxRecDepth 100000 in
theorem docread_bad (s : ByteArray) (h : okB s.data.toList = false) (hs : s.size ≤ maxLen) (w : World) : Calls Try.prog 23 #[.string s] w fun e w' => e = .returned (.tuple #[.agg #[.int .u64 0, .int .u64 0], .int .i64 5]) ∧ Below w.heap.size w w' := by
  unfold maxLen at hs
  have hl : s.data.toList.length = s.size := by simp
  rcases okB_no h with h0 | ⟨h1, h2⟩ | ⟨hn, hne, j, hj, hbad⟩
  · have e : s.toList = [] := by rw [ByteArray.toList_eq]; exact h0
    clear h h0 hl
    go_enter Try.func23, Try.ntmps23
    go_wp2_with fail
    refine bodyPost_ret (by simp [results, Try.results23, go_sem, *]; try rfl) rfl ?_
    exact ⟨rfl, by (repeat' (first | (with_reducible exact Below.refl _ _) | (with_reducible assumption) | (with_reducible refine Below.drew ?_) | (with_reducible refine below_drewN ?_ _) | ((with_reducible refine Below.alloc ?_ ?_ _); rotate_left; focus (go_size; done)) | ((with_reducible refine Below.setCell ?_ ?_ _); rotate_left; focus (go_size; done)) | ((with_reducible refine Below.trans ?_ (Below.mono (by with_reducible assumption) ?_)); rotate_left; focus (go_size; done))))⟩
  · skip
    have z0 : 0 < s.size := by omega
    have e1 : ¬ s.toList = [] := by rw [ByteArray.toList_eq]; intro e; rw [e] at hl; simp at hl; omega
    have e2 : s.toList.isEmpty = false := by simpa using e1
    have e3 : (1 : Int) < (s.size : Int) := by omega
    have e5 : ((s[0].toNat : Int) == 48) = true := by rw [head_data s z0] at h2; simp; omega
    clear h h1 h2 hl
    go_enter Try.func23, Try.ntmps23
    go_wp2_with fail
    refine bodyPost_ret (by simp [results, Try.results23, go_sem, *]; try rfl) rfl ?_
    exact ⟨rfl, by (repeat' (first | (with_reducible exact Below.refl _ _) | (with_reducible assumption) | (with_reducible refine Below.drew ?_) | (with_reducible refine below_drewN ?_ _) | ((with_reducible refine Below.alloc ?_ ?_ _); rotate_left; focus (go_size; done)) | ((with_reducible refine Below.setCell ?_ ?_ _); rotate_left; focus (go_size; done)) | ((with_reducible refine Below.trans ?_ (Below.mono (by with_reducible assumption) ?_)); rotate_left; focus (go_size; done))))⟩
  · skip
    have z0 : 0 < s.size := by have := List.length_pos_iff.2 hne; omega
    have e1 : ¬ s.toList = [] := by rw [ByteArray.toList_eq]; exact hne
    have e2 : s.toList.isEmpty = false := by simpa using e1
    have hcase : ¬ (1 : Int) < (s.size : Int) ∨ ((1 : Int) < (s.size : Int) ∧ ((s[0].toNat : Int) == 48) = false) := by
      by_cases hb : 1 < s.size
      · right
        refine ⟨by omega, ?_⟩
        rw [head_data s z0, hl] at hn
        simp
        intro e
        exact hn ⟨hb, by omega⟩
      · left; omega
    have hjs : j < s.size := by omega
    have hbad' : ¬ (48 ≤ s[j].toNat ∧ s[j].toNat ≤ 57) := hbad
    have HB := Lib.hid hbad'
    clear h hn hne hbad hbad' hl
    rcases hcase with hb | ⟨hb, e5⟩
    · go_enter Try.func23, Try.ntmps23
      go_wp2_with fail
      go_loopg [4] s.size (fun k i wr => ∃ t : Nat, k + t = s.size ∧ i = .int .i64 t ∧ t ≤ j ∧ Bk wr w.heap.size 27 [.int .u64 0, .int .u64 0] ∧ Below w.heap.size w wr)
      case atStart => exact ⟨0, by omega, rfl, by omega, by (repeat (first | (with_reducible assumption) | ((with_reducible refine Bk.new_ ?_); (first | rfl | (simp only [World.size_alloc, World.size_setCell, World.size_drew, World.heap_drewN]; done))) | (with_reducible refine Bk.alloc ?_ _) | (with_reducible refine Bk.drew ?_) | (with_reducible refine Bk.drewN ?_ _) | ((with_reducible refine Bk.far ?_ ?_ _); rotate_left; focus (simp only []; omega)) | ((with_reducible refine Bk.below ?_ (by with_reducible assumption) ?_); rotate_left; focus (go_size; done)))), by (repeat' (first | (with_reducible exact Below.refl _ _) | (with_reducible assumption) | (with_reducible refine Below.drew ?_) | (with_reducible refine below_drewN ?_ _) | ((with_reducible refine Below.alloc ?_ ?_ _); rotate_left; focus (go_size; done)) | ((with_reducible refine Below.setCell ?_ ?_ _); rotate_left; focus (go_size; done)) | ((with_reducible refine Below.trans ?_ (Below.mono (by with_reducible assumption) ?_)); rotate_left; focus (go_size; done))))⟩
      case round =>
        obtain ⟨t, hk, rfl, htj, b0, hbel⟩ := hrel
        have HK := Lib.hid hk
        have c0 := b0.cell 0 rfl
        have c1 := b0.cell 1 rfl
        have f0 := b0.frozen 0
        have f1 := b0.frozen 1
        have ts : t < s.size := by omega
        clear hk
        by_cases hd : 48 ≤ s[t].toNat ∧ s[t].toNat ≤ 57
        · have d1 : (48 : Int) ≤ (s[t].toNat : Int) := by omega
          have d2 : (s[t].toNat : Int) ≤ 57 := by omega
          have hne : t ≠ j := by rintro rfl; exact HB.out hd
          have HTJ := Lib.hid hne
          clear hd hne
          go_wp2_with fail
          go_roundg (gk - 1)
          case measure => have := HK.out; omega
          case rel => exact ⟨t + 1, by have := HK.out; omega, by go_num, by have := HTJ.out; omega, b0, hbel⟩
        · by_cases hlow : s[t].toNat < 48
          · have d1 : (s[t].toNat : Int) < 48 := by omega
            clear hd hlow
            go_wp2_with fail
            refine bodyPost_ret (by simp [results, Try.results23, go_sem, *]; try rfl) rfl ?_
            exact ⟨rfl, by (repeat' (first | (with_reducible exact Below.refl _ _) | (with_reducible assumption) | (with_reducible refine Below.drew ?_) | (with_reducible refine below_drewN ?_ _) | ((with_reducible refine Below.alloc ?_ ?_ _); rotate_left; focus (go_size; done)) | ((with_reducible refine Below.setCell ?_ ?_ _); rotate_left; focus (go_size; done)) | ((with_reducible refine Below.trans ?_ (Below.mono (by with_reducible assumption) ?_)); rotate_left; focus (go_size; done))))⟩
          · have d1 : (48 : Int) ≤ (s[t].toNat : Int) := by omega
            have d2 : (57 : Int) < (s[t].toNat : Int) := by omega
            clear hd hlow
            go_wp2_with fail
            refine bodyPost_ret (by simp [results, Try.results23, go_sem, *]; try rfl) rfl ?_
            exact ⟨rfl, by (repeat' (first | (with_reducible exact Below.refl _ _) | (with_reducible assumption) | (with_reducible refine Below.drew ?_) | (with_reducible refine below_drewN ?_ _) | ((with_reducible refine Below.alloc ?_ ?_ _); rotate_left; focus (go_size; done)) | ((with_reducible refine Below.setCell ?_ ?_ _); rotate_left; focus (go_size; done)) | ((with_reducible refine Below.trans ?_ (Below.mono (by with_reducible assumption) ?_)); rotate_left; focus (go_size; done))))⟩
    · go_enter Try.func23, Try.ntmps23
      go_wp2_with fail
      go_loopg [4] s.size (fun k i wr => ∃ t : Nat, k + t = s.size ∧ i = .int .i64 t ∧ t ≤ j ∧ Bk wr w.heap.size 27 [.int .u64 0, .int .u64 0] ∧ Below w.heap.size w wr)
      case atStart => exact ⟨0, by omega, rfl, by omega, by (repeat (first | (with_reducible assumption) | ((with_reducible refine Bk.new_ ?_); (first | rfl | (simp only [World.size_alloc, World.size_setCell, World.size_drew, World.heap_drewN]; done))) | (with_reducible refine Bk.alloc ?_ _) | (with_reducible refine Bk.drew ?_) | (with_reducible refine Bk.drewN ?_ _) | ((with_reducible refine Bk.far ?_ ?_ _); rotate_left; focus (simp only []; omega)) | ((with_reducible refine Bk.below ?_ (by with_reducible assumption) ?_); rotate_left; focus (go_size; done)))), by (repeat' (first | (with_reducible exact Below.refl _ _) | (with_reducible assumption) | (with_reducible refine Below.drew ?_) | (with_reducible refine below_drewN ?_ _) | ((with_reducible refine Below.alloc ?_ ?_ _); rotate_left; focus (go_size; done)) | ((with_reducible refine Below.setCell ?_ ?_ _); rotate_left; focus (go_size; done)) | ((with_reducible refine Below.trans ?_ (Below.mono (by with_reducible assumption) ?_)); rotate_left; focus (go_size; done))))⟩
      case round =>
        obtain ⟨t, hk, rfl, htj, b0, hbel⟩ := hrel
        have HK := Lib.hid hk
        have c0 := b0.cell 0 rfl
        have c1 := b0.cell 1 rfl
        have f0 := b0.frozen 0
        have f1 := b0.frozen 1
        have ts : t < s.size := by omega
        clear hk
        by_cases hd : 48 ≤ s[t].toNat ∧ s[t].toNat ≤ 57
        · have d1 : (48 : Int) ≤ (s[t].toNat : Int) := by omega
          have d2 : (s[t].toNat : Int) ≤ 57 := by omega
          have hne : t ≠ j := by rintro rfl; exact HB.out hd
          have HTJ := Lib.hid hne
          clear hd hne
          go_wp2_with fail
          go_roundg (gk - 1)
          case measure => have := HK.out; omega
          case rel => exact ⟨t + 1, by have := HK.out; omega, by go_num, by have := HTJ.out; omega, b0, hbel⟩
        · by_cases hlow : s[t].toNat < 48
          · have d1 : (s[t].toNat : Int) < 48 := by omega
            clear hd hlow
            go_wp2_with fail
            refine bodyPost_ret (by simp [results, Try.results23, go_sem, *]; try rfl) rfl ?_
            exact ⟨rfl, by (repeat' (first | (with_reducible exact Below.refl _ _) | (with_reducible assumption) | (with_reducible refine Below.drew ?_) | (with_reducible refine below_drewN ?_ _) | ((with_reducible refine Below.alloc ?_ ?_ _); rotate_left; focus (go_size; done)) | ((with_reducible refine Below.setCell ?_ ?_ _); rotate_left; focus (go_size; done)) | ((with_reducible refine Below.trans ?_ (Below.mono (by with_reducible assumption) ?_)); rotate_left; focus (go_size; done))))⟩
          · have d1 : (48 : Int) ≤ (s[t].toNat : Int) := by omega
            have d2 : (57 : Int) < (s[t].toNat : Int) := by omega
            clear hd hlow
            go_wp2_with fail
            refine bodyPost_ret (by simp [results, Try.results23, go_sem, *]; try rfl) rfl ?_
            exact ⟨rfl, by (repeat' (first | (with_reducible exact Below.refl _ _) | (with_reducible assumption) | (with_reducible refine Below.drew ?_) | (with_reducible refine below_drewN ?_ _) | ((with_reducible refine Below.alloc ?_ ?_ _); rotate_left; focus (go_size; done)) | ((with_reducible refine Below.setCell ?_ ?_ _); rotate_left; focus (go_size; done)) | ((with_reducible refine Below.trans ?_ (Below.mono (by with_reducible assumption) ?_)); rotate_left; focus (go_size; done))))⟩
end Go.Proofs.Ytnjiibeomailhaa
