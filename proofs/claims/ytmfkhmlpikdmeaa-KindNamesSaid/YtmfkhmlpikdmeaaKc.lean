/- The reference's Under and Join, and the program's, as calls that reckon. -/
import Derived.Test.YtmfkhmlpikdmeaaKb
namespace Go.Proofs.Ytmfkhmlpikdmeaa
open Go.RowKit

/-- what the reference's Under computes of types in form -/
def refU (k o c d : Int) : Bool :=
  if k = 0 then fitsN 6 c else if k = 5 then fitsO (if o = 0 then 5 else o) c d else fitsN k c

set_option maxHeartbeats 400000 in
theorem runder_any (k o c d : Int) (hf : formB k o = true) (w : World) : Calls Try.prog 23 #[.agg #[.int .i64 k, .int .i64 o], .agg #[.int .i64 c, .int .i64 d]] w fun e w' => e = .returned (.bool (refU k o c d)) ∧ Below w.heap.size w w' := by
  by_cases h0 : k = 0
  · have ho : o = 0 := by simp [formB, h0] at hf; omega
    subst h0; subst ho; clear hf
    go_enter Try.func23, Try.ntmps23
    go_wp2_with fail
    go_region_held3 (fun w' => w'.cell? ⟨w.heap.size, 0, none⟩ = some (.int .i64 0) ∧ w'.cell? ⟨w.heap.size, 1, none⟩ = some (.int .i64 0) ∧ w'.cell? ⟨w.heap.size + 1, 0, none⟩ = some (.int .i64 c) ∧ w'.cell? ⟨w.heap.size + 1, 1, none⟩ = some (.int .i64 d)) (first | (go_keep; done) | ((try dsimp only); (repeat' apply And.intro) <;> (first | (go_keep; done) | (simp (disch := go_size) [*, World.cell?_alloc_some, World.cell?_setCell_far]; done))))
      (first
        | (go_at_call 29; refine (sample_any _).mono ?_; rintro _ w1 ⟨rfl, hb⟩; have hbs := hb.size; simp only [World.size_alloc, World.size_drew] at hbs; obtain ⟨hbc, hbf⟩ := bcell hb)
        | (go_at_call 28; refine (fits_nil _ _ _ _ _).mono ?_; rintro _ w2 ⟨rfl, hc⟩; have hcs := hc.size; obtain ⟨hcc, hcf⟩ := bcell hc))
    go_wp2_with fail
    go_ret
    exact ⟨by simp [refU], by (repeat' (first | (with_reducible exact Below.refl _ _) | (with_reducible assumption) | (with_reducible refine Below.drew ?_) | (with_reducible refine below_drewN ?_ _) | ((with_reducible refine Below.alloc ?_ ?_ _); rotate_left; focus (go_size; done)) | ((with_reducible refine Below.setCell ?_ ?_ _); rotate_left; focus (go_size; done)) | ((with_reducible refine Below.trans ?_ (Below.mono (by with_reducible assumption) ?_)); rotate_left; focus (go_size; done))))⟩
  by_cases h5 : k = 5
  · subst h5
    have ho : 0 ≤ o ∧ o < 5 := by simpa [formB] using hf
    clear hf
    by_cases hz : o = 0
    · subst hz
      go_enter Try.func23, Try.ntmps23
      go_wp2_with fail
      go_region_held3 (fun w' => w'.cell? ⟨w.heap.size, 0, none⟩ = some (.int .i64 5) ∧ w'.cell? ⟨w.heap.size, 1, none⟩ = some (.int .i64 0) ∧ w'.cell? ⟨w.heap.size + 1, 0, none⟩ = some (.int .i64 c) ∧ w'.cell? ⟨w.heap.size + 1, 1, none⟩ = some (.int .i64 d)) (first | (go_keep; done) | ((try dsimp only); (repeat' apply And.intro) <;> (first | (go_keep; done) | (simp (disch := go_size) [*, World.cell?_alloc_some, World.cell?_setCell_far]; done))))
        (first
          | (go_at_call 29; refine (sample_lists _).mono ?_; rintro _ w1 ⟨L, rfl, hL, hb⟩; have hbs := hb.size; simp only [World.size_alloc, World.size_drew] at hbs; obtain ⟨hbc, hbf⟩ := bcell hb)
          | (go_at_call 28; refine (fits_one _ _ _ _ _ _ (by decide) hL).mono ?_; rintro _ w2 ⟨rfl, hc⟩; have hcs := hc.size; obtain ⟨hcc, hcf⟩ := bcell hc))
      go_wp2_with fail
      go_ret
      exact ⟨by simp [refU], by (repeat' (first | (with_reducible exact Below.refl _ _) | (with_reducible assumption) | (with_reducible refine Below.drew ?_) | (with_reducible refine below_drewN ?_ _) | ((with_reducible refine Below.alloc ?_ ?_ _); rotate_left; focus (go_size; done)) | ((with_reducible refine Below.setCell ?_ ?_ _); rotate_left; focus (go_size; done)) | ((with_reducible refine Below.trans ?_ (Below.mono (by with_reducible assumption) ?_)); rotate_left; focus (go_size; done))))⟩
    · have h1 : 1 ≤ o := by omega
      have h2 : o ≤ 4 := by omega
      have HZ := Lib.hid hz
      clear hz ho
      go_enter Try.func23, Try.ntmps23
      go_wp2_with fail
      go_region_held3 (fun w' => w'.cell? ⟨w.heap.size, 0, none⟩ = some (.int .i64 5) ∧ w'.cell? ⟨w.heap.size, 1, none⟩ = some (.int .i64 o) ∧ w'.cell? ⟨w.heap.size + 1, 0, none⟩ = some (.int .i64 c) ∧ w'.cell? ⟨w.heap.size + 1, 1, none⟩ = some (.int .i64 d)) (first | (go_keep; done) | ((try dsimp only); (repeat' apply And.intro) <;> (first | (go_keep; done) | (simp (disch := go_size) [*, World.cell?_alloc_some, World.cell?_setCell_far]; done))))
        (first
          | (go_at_call 29; refine (sample_list o h1 h2 _).mono ?_; rintro _ w1 ⟨L, rfl, hL, hb⟩; have hbs := hb.size; simp only [World.size_alloc, World.size_drew] at hbs; obtain ⟨hbc, hbf⟩ := bcell hb)
          | (go_at_call 28; refine (fits_one _ _ _ _ _ _ HZ.out hL).mono ?_; rintro _ w2 ⟨rfl, hc⟩; have hcs := hc.size; obtain ⟨hcc, hcf⟩ := bcell hc))
      go_wp2_with fail
      go_ret
      exact ⟨by simp [refU, HZ.out], by (repeat' (first | (with_reducible exact Below.refl _ _) | (with_reducible assumption) | (with_reducible refine Below.drew ?_) | (with_reducible refine below_drewN ?_ _) | ((with_reducible refine Below.alloc ?_ ?_ _); rotate_left; focus (go_size; done)) | ((with_reducible refine Below.setCell ?_ ?_ _); rotate_left; focus (go_size; done)) | ((with_reducible refine Below.trans ?_ (Below.mono (by with_reducible assumption) ?_)); rotate_left; focus (go_size; done))))⟩
  · by_cases h4 : k = 4
    · have ho : o = 0 := by simp [formB, h5] at hf; omega
      subst h4; subst ho; clear hf
      go_enter Try.func23, Try.ntmps23
      go_wp2_with fail
      go_region_held3 (fun w' => w'.cell? ⟨w.heap.size, 0, none⟩ = some (.int .i64 4) ∧ w'.cell? ⟨w.heap.size, 1, none⟩ = some (.int .i64 0) ∧ w'.cell? ⟨w.heap.size + 1, 0, none⟩ = some (.int .i64 c) ∧ w'.cell? ⟨w.heap.size + 1, 1, none⟩ = some (.int .i64 d)) (first | (go_keep; done) | ((try dsimp only); (repeat' apply And.intro) <;> (first | (go_keep; done) | (simp (disch := go_size) [*, World.cell?_alloc_some, World.cell?_setCell_far]; done))))
        (first
          | (go_at_call 29; refine (sample_date _).mono ?_; rintro _ w1 ⟨rfl, hb⟩; have hbs := hb.size; simp only [World.size_alloc, World.size_drew] at hbs; obtain ⟨hbc, hbf⟩ := bcell hb)
          | (go_at_call 28; refine (fits_nil _ _ _ _ _).mono ?_; rintro _ w2 ⟨rfl, hc⟩; have hcs := hc.size; obtain ⟨hcc, hcf⟩ := bcell hc))
      go_wp2_with fail
      go_ret
      exact ⟨by simp [refU], by (repeat' (first | (with_reducible exact Below.refl _ _) | (with_reducible assumption) | (with_reducible refine Below.drew ?_) | (with_reducible refine below_drewN ?_ _) | ((with_reducible refine Below.alloc ?_ ?_ _); rotate_left; focus (go_size; done)) | ((with_reducible refine Below.setCell ?_ ?_ _); rotate_left; focus (go_size; done)) | ((with_reducible refine Below.trans ?_ (Below.mono (by with_reducible assumption) ?_)); rotate_left; focus (go_size; done))))⟩
    · have ho : o = 0 := by simp [formB, h5] at hf; omega
      have hk : 1 ≤ k ∧ k ≤ 3 := by simp [formB, h5] at hf; omega
      obtain ⟨hk1, hk2⟩ := hk
      subst ho
      have H0 := Lib.hid h0
      have H5 := Lib.hid h5
      clear h0 h5 h4 hf
      go_enter Try.func23, Try.ntmps23
      go_wp2_with fail
      go_region_held3 (fun w' => w'.cell? ⟨w.heap.size, 0, none⟩ = some (.int .i64 k) ∧ w'.cell? ⟨w.heap.size, 1, none⟩ = some (.int .i64 0) ∧ w'.cell? ⟨w.heap.size + 1, 0, none⟩ = some (.int .i64 c) ∧ w'.cell? ⟨w.heap.size + 1, 1, none⟩ = some (.int .i64 d)) (first | (go_keep; done) | ((try dsimp only); (repeat' apply And.intro) <;> (first | (go_keep; done) | (simp (disch := go_size) [*, World.cell?_alloc_some, World.cell?_setCell_far]; done))))
        (first
          | (go_at_call 29; refine (sample_plain k hk1 hk2 _).mono ?_; rintro _ w1 ⟨rfl, hb⟩; have hbs := hb.size; simp only [World.size_alloc, World.size_drew] at hbs; obtain ⟨hbc, hbf⟩ := bcell hb)
          | (go_at_call 28; refine (fits_nil _ _ _ _ _).mono ?_; rintro _ w2 ⟨rfl, hc⟩; have hcs := hc.size; obtain ⟨hcc, hcf⟩ := bcell hc))
      go_wp2_with fail
      go_ret
      exact ⟨by simp [refU, H0.out, H5.out], by (repeat' (first | (with_reducible exact Below.refl _ _) | (with_reducible assumption) | (with_reducible refine Below.drew ?_) | (with_reducible refine below_drewN ?_ _) | ((with_reducible refine Below.alloc ?_ ?_ _); rotate_left; focus (go_size; done)) | ((with_reducible refine Below.setCell ?_ ?_ _); rotate_left; focus (go_size; done)) | ((with_reducible refine Below.trans ?_ (Below.mono (by with_reducible assumption) ?_)); rotate_left; focus (go_size; done))))⟩

theorem refU_under (k o c d : Int) (hf : formB k o = true) (hg : formB c d = true) : refU k o c d = underB k o c d := by
  have h1 : (k = 5 ∧ 0 ≤ o ∧ o < 5) ∨ (k ≠ 5 ∧ 0 ≤ k ∧ k < 5 ∧ o = 0) := by
    unfold formB at hf; split at hf <;> simp_all
  have h2 : (c = 5 ∧ 0 ≤ d ∧ d < 5) ∨ (c ≠ 5 ∧ 0 ≤ c ∧ c < 5 ∧ d = 0) := by
    unfold formB at hg; split at hg <;> simp_all
  clear hf hg
  unfold refU underB fitsN fitsO
  rw [Bool.eq_iff_iff]
  split
  · simp; omega
  · split
    · split <;> simp <;> omega
    · simp; omega

def ofT (i : Int) : Int × Int := if i < 5 then (i, 0) else (5, i - 5)
set_option maxHeartbeats 400000 in
theorem of_any (i : Int) (h1 : 0 ≤ i) (h2 : i < 10) (w : World) : Calls Try.prog 20 #[.int .i64 i] w fun e w' => e = .returned (.agg #[.int .i64 (ofT i).1, .int .i64 (ofT i).2]) ∧ Below w.heap.size w w' := by
  by_cases h : i < 5
  · have e : ofT i = (i, 0) := by simp [ofT, h]
    rw [e]
    go_enter Try.func20, Try.ntmps20
    go_wp2
    go_returns
    exact ⟨rfl, by (repeat' (first | (with_reducible exact Below.refl _ _) | (with_reducible assumption) | (with_reducible refine Below.drew ?_) | (with_reducible refine below_drewN ?_ _) | ((with_reducible refine Below.alloc ?_ ?_ _); rotate_left; focus (go_size; done)) | ((with_reducible refine Below.setCell ?_ ?_ _); rotate_left; focus (go_size; done)) | ((with_reducible refine Below.trans ?_ (Below.mono (by with_reducible assumption) ?_)); rotate_left; focus (go_size; done))))⟩
  · have e : ofT i = (5, i - 5) := by simp [ofT, h]
    rw [e]
    go_enter Try.func20, Try.ntmps20
    go_wp2
    go_returns
    exact ⟨rfl, by (repeat' (first | (with_reducible exact Below.refl _ _) | (with_reducible assumption) | (with_reducible refine Below.drew ?_) | (with_reducible refine below_drewN ?_ _) | ((with_reducible refine Below.alloc ?_ ?_ _); rotate_left; focus (go_size; done)) | ((with_reducible refine Below.setCell ?_ ?_ _); rotate_left; focus (go_size; done)) | ((with_reducible refine Below.trans ?_ (Below.mono (by with_reducible assumption) ?_)); rotate_left; focus (go_size; done))))⟩
theorem form_of (i : Int) (h1 : 0 ≤ i) (h2 : i < 10) : formB (ofT i).1 (ofT i).2 = true := by
  unfold formB ofT
  split <;> simp <;> omega

/-- the reference's Join, round by round -/
def joinT (a b : Int × Int) : Nat → Int × Int
  | 0 => (0, 0)
  | n + 1 => let c := ofT n
    if refU a.1 a.2 c.1 c.2 = true ∧ refU b.1 b.2 c.1 c.2 = true ∧ refU c.1 c.2 (joinT a b n).1 (joinT a b n).2 = true then c else joinT a b n
theorem joinT_form (a b : Int × Int) (n : Nat) (h : n ≤ 10) : formB (joinT a b n).1 (joinT a b n).2 = true := by
  induction n with
  | zero => rfl
  | succ n ih =>
    unfold joinT
    dsimp only
    split
    · exact form_of n (by omega) (by omega)
    · exact ih (by omega)
end Go.Proofs.Ytmfkhmlpikdmeaa
