/- The program: are one, two decimals in form? -/
import Derived.Test.YthkgjodidkpaeaaFc
import Derived.Test.YthkgjodidkpaeaaNw
set_option linter.unusedSimpArgs false
set_option linter.unusedVariables false
namespace Go.Proofs.Ythkgjodidkpaeaa
open Go.RowKit

def ferr (x : Bool) : Int := if x = true then 0 else 2
set_option maxHeartbeats 4000000 in
theorem formed_one (b : Bool) (c : Nat) (s : Int) (hc : c < 2 ^ 128) (g : Nat) (w : World) (hg : Bk w g 26 [.bool b, .int .u64 (wd (c) 1), .int .u64 (wd (c) 0), .int .i64 s]) :
    Calls Try.prog 46 #[.slice (some ⟨g, 0, none⟩) 1 1] w fun e w' => e = .returned (.int .i64 (ferr (dform b c s))) ∧ Below w.heap.size w w' := by
  have HF := Lib.hid (fun W => form_any b c s hc W)
  obtain ⟨v, hv⟩ : ∃ v, v = dform b c s := ⟨_, rfl⟩
  rw [← hv] at HF
  rw [← hv]
  generalize wd c 0 = x0 at *
  generalize wd c 1 = x1 at *
  have HG := Lib.hid hg
  have hgl := hg.lt
  clear hc hv hg
  go_enter Try.func46, Try.ntmps46
  go_wp2_with fail
  go_loopg [7] 1 (fun k i wr => ∃ t : Nat, k + t = 1 ∧ i = .int .i64 t ∧ (t = 0 ∨ v = true) ∧ Below w.heap.size w wr)
  case atStart => exact ⟨0, rfl, rfl, .inl rfl, by (repeat' (first | (with_reducible exact Below.refl _ _) | (with_reducible assumption) | (with_reducible refine Below.drew ?_) | (with_reducible refine below_drewN ?_ _) | ((with_reducible refine Below.alloc ?_ ?_ _); rotate_left; focus (go_size; done)) | ((with_reducible refine Below.setCell ?_ ?_ _); rotate_left; focus (go_size; done)) | ((with_reducible refine Below.trans ?_ (Below.mono (by with_reducible assumption) ?_)); rotate_left; focus (go_size; done))))⟩
  case round =>
    obtain ⟨t, hk, rfl, hv, hbel⟩ := hrel
    have HK := Lib.hid hk
    have hbs := hbel.size
    have hc : t = 0 ∨ t = 1 := by omega
    clear hk
    rcases hc with rfl | rfl
    · have bg := HG.out.below hbel hgl
      have d0 := bg.cell 0 rfl
      have d1 := bg.cell 1 rfl
      have d2 := bg.cell 2 rfl
      have d3 := bg.cell 3 rfl
      clear bg hv
      cases v
      · go_wp2_with ((go_at_call 16; with_reducible refine (HF.out _).mono ?_); rintro _ w1 ⟨rfl, hb1⟩; have hb1s := hb1.size; (try simp only [World.size_alloc, World.size_setCell, World.size_drew, World.heap_drewN] at hb1s); obtain ⟨hb1c, hb1f⟩ := bcell hb1; (try have : w.heap.size < w1.heap.size := by omega); (try have : w.heap.size + 1 < w1.heap.size := by omega); (try have : w.heap.size + 1 + 1 < w1.heap.size := by omega); (try have : w.heap.size + 1 + 1 + 1 < w1.heap.size := by omega))
        go_ret
        exact ⟨rfl, by (repeat' (first | (with_reducible exact Below.refl _ _) | (with_reducible assumption) | (with_reducible refine Below.drew ?_) | (with_reducible refine below_drewN ?_ _) | ((with_reducible refine Below.alloc ?_ ?_ _); rotate_left; focus (go_size; done)) | ((with_reducible refine Below.setCell ?_ ?_ _); rotate_left; focus (go_size; done)) | ((with_reducible refine Below.trans ?_ (Below.mono (by with_reducible assumption) ?_)); rotate_left; focus (go_size; done))))⟩
      · go_wp2_with ((go_at_call 16; with_reducible refine (HF.out _).mono ?_); rintro _ w1 ⟨rfl, hb1⟩; have hb1s := hb1.size; (try simp only [World.size_alloc, World.size_setCell, World.size_drew, World.heap_drewN] at hb1s); obtain ⟨hb1c, hb1f⟩ := bcell hb1; (try have : w.heap.size < w1.heap.size := by omega); (try have : w.heap.size + 1 < w1.heap.size := by omega); (try have : w.heap.size + 1 + 1 < w1.heap.size := by omega); (try have : w.heap.size + 1 + 1 + 1 < w1.heap.size := by omega))
        go_roundg 0
        case measure => have := HK.out; omega
        case rel => exact ⟨1, rfl, rfl, .inr (by simp), by (repeat' (first | (with_reducible exact Below.refl _ _) | (with_reducible assumption) | (with_reducible refine Below.drew ?_) | (with_reducible refine below_drewN ?_ _) | ((with_reducible refine Below.alloc ?_ ?_ _); rotate_left; focus (go_size; done)) | ((with_reducible refine Below.setCell ?_ ?_ _); rotate_left; focus (go_size; done)) | ((with_reducible refine Below.trans ?_ (Below.mono (by with_reducible assumption) ?_)); rotate_left; focus (go_size; done))))⟩
    · obtain rfl : v = true := by simpa using hv
      clear hv
      go_wp2_with fail
      go_ret
      exact ⟨rfl, by (repeat' (first | (with_reducible exact Below.refl _ _) | (with_reducible assumption) | (with_reducible refine Below.drew ?_) | (with_reducible refine below_drewN ?_ _) | ((with_reducible refine Below.alloc ?_ ?_ _); rotate_left; focus (go_size; done)) | ((with_reducible refine Below.setCell ?_ ?_ _); rotate_left; focus (go_size; done)) | ((with_reducible refine Below.trans ?_ (Below.mono (by with_reducible assumption) ?_)); rotate_left; focus (go_size; done))))⟩
set_option maxHeartbeats 4000000 in
theorem formed_two (b : Bool) (c : Nat) (s : Int) (hc : c < 2 ^ 128) (b' : Bool) (c' : Nat) (s' : Int) (hc' : c' < 2 ^ 128) (g : Nat) (w : World) (hg : Bk w g 26 [.bool b, .int .u64 (wd c 1), .int .u64 (wd c 0), .int .i64 s, .bool b', .int .u64 (wd c' 1), .int .u64 (wd c' 0), .int .i64 s']) :
    Calls Try.prog 46 #[.slice (some ⟨g, 0, none⟩) 2 2] w fun e w' => e = .returned (.int .i64 (ferr (dform b c s && dform b' c' s'))) ∧ Below w.heap.size w w' := by
  have HF := Lib.hid (fun W => form_any b c s hc W)
  have HF' := Lib.hid (fun W => form_any b' c' s' hc' W)
  obtain ⟨v, hv⟩ : ∃ v, v = dform b c s := ⟨_, rfl⟩
  obtain ⟨v', hv'⟩ : ∃ v', v' = dform b' c' s' := ⟨_, rfl⟩
  rw [← hv] at HF
  rw [← hv'] at HF'
  rw [← hv, ← hv']
  generalize wd c 0 = x0 at *
  generalize wd c 1 = x1 at *
  generalize wd c' 0 = y0 at *
  generalize wd c' 1 = y1 at *
  have HG := Lib.hid hg
  have hgl := hg.lt
  clear hc hv hg hc' hv'
  go_enter Try.func46, Try.ntmps46
  go_wp2_with fail
  go_loopg [7] 2 (fun k i wr => ∃ t : Nat, k + t = 2 ∧ i = .int .i64 t ∧ (t = 0 ∨ v = true) ∧ (t ≤ 1 ∨ v' = true) ∧ Below w.heap.size w wr)
  case atStart => exact ⟨0, rfl, rfl, .inl rfl, .inl (by decide), by (repeat' (first | (with_reducible exact Below.refl _ _) | (with_reducible assumption) | (with_reducible refine Below.drew ?_) | (with_reducible refine below_drewN ?_ _) | ((with_reducible refine Below.alloc ?_ ?_ _); rotate_left; focus (go_size; done)) | ((with_reducible refine Below.setCell ?_ ?_ _); rotate_left; focus (go_size; done)) | ((with_reducible refine Below.trans ?_ (Below.mono (by with_reducible assumption) ?_)); rotate_left; focus (go_size; done))))⟩
  case round =>
    obtain ⟨t, hk, rfl, hv, hv', hbel⟩ := hrel
    have HK := Lib.hid hk
    have hbs := hbel.size
    have hc : t = 0 ∨ t = 1 ∨ t = 2 := by omega
    have bg := HG.out.below hbel hgl
    clear hk
    rcases hc with rfl | rfl | rfl
    · have d0 := bg.cell 0 rfl
      have d1 := bg.cell 1 rfl
      have d2 := bg.cell 2 rfl
      have d3 := bg.cell 3 rfl
      clear bg hv hv'
      cases v
      · go_wp2_with ((go_at_call 16; with_reducible refine (HF.out _).mono ?_); rintro _ w1 ⟨rfl, hb1⟩; have hb1s := hb1.size; (try simp only [World.size_alloc, World.size_setCell, World.size_drew, World.heap_drewN] at hb1s); obtain ⟨hb1c, hb1f⟩ := bcell hb1; (try have : w.heap.size < w1.heap.size := by omega); (try have : w.heap.size + 1 < w1.heap.size := by omega); (try have : w.heap.size + 1 + 1 < w1.heap.size := by omega); (try have : w.heap.size + 1 + 1 + 1 < w1.heap.size := by omega))
        go_ret
        exact ⟨rfl, by (repeat' (first | (with_reducible exact Below.refl _ _) | (with_reducible assumption) | (with_reducible refine Below.drew ?_) | (with_reducible refine below_drewN ?_ _) | ((with_reducible refine Below.alloc ?_ ?_ _); rotate_left; focus (go_size; done)) | ((with_reducible refine Below.setCell ?_ ?_ _); rotate_left; focus (go_size; done)) | ((with_reducible refine Below.trans ?_ (Below.mono (by with_reducible assumption) ?_)); rotate_left; focus (go_size; done))))⟩
      · go_wp2_with ((go_at_call 16; with_reducible refine (HF.out _).mono ?_); rintro _ w1 ⟨rfl, hb1⟩; have hb1s := hb1.size; (try simp only [World.size_alloc, World.size_setCell, World.size_drew, World.heap_drewN] at hb1s); obtain ⟨hb1c, hb1f⟩ := bcell hb1; (try have : w.heap.size < w1.heap.size := by omega); (try have : w.heap.size + 1 < w1.heap.size := by omega); (try have : w.heap.size + 1 + 1 < w1.heap.size := by omega); (try have : w.heap.size + 1 + 1 + 1 < w1.heap.size := by omega))
        go_roundg 1
        case measure => have := HK.out; omega
        case rel => exact ⟨1, rfl, rfl, .inr (by simp), .inl (Nat.le_refl _), by (repeat' (first | (with_reducible exact Below.refl _ _) | (with_reducible assumption) | (with_reducible refine Below.drew ?_) | (with_reducible refine below_drewN ?_ _) | ((with_reducible refine Below.alloc ?_ ?_ _); rotate_left; focus (go_size; done)) | ((with_reducible refine Below.setCell ?_ ?_ _); rotate_left; focus (go_size; done)) | ((with_reducible refine Below.trans ?_ (Below.mono (by with_reducible assumption) ?_)); rotate_left; focus (go_size; done))))⟩
    · obtain rfl : v = true := by simpa using hv
      have d0 := bg.cell 4 rfl
      have d1 := bg.cell 5 rfl
      have d2 := bg.cell 6 rfl
      have d3 := bg.cell 7 rfl
      clear bg hv hv' HF
      cases v'
      · go_wp2_with ((go_at_call 16; with_reducible refine (HF'.out _).mono ?_); rintro _ w1 ⟨rfl, hb1⟩; have hb1s := hb1.size; (try simp only [World.size_alloc, World.size_setCell, World.size_drew, World.heap_drewN] at hb1s); obtain ⟨hb1c, hb1f⟩ := bcell hb1; (try have : w.heap.size < w1.heap.size := by omega); (try have : w.heap.size + 1 < w1.heap.size := by omega); (try have : w.heap.size + 1 + 1 < w1.heap.size := by omega); (try have : w.heap.size + 1 + 1 + 1 < w1.heap.size := by omega))
        go_ret
        exact ⟨rfl, by (repeat' (first | (with_reducible exact Below.refl _ _) | (with_reducible assumption) | (with_reducible refine Below.drew ?_) | (with_reducible refine below_drewN ?_ _) | ((with_reducible refine Below.alloc ?_ ?_ _); rotate_left; focus (go_size; done)) | ((with_reducible refine Below.setCell ?_ ?_ _); rotate_left; focus (go_size; done)) | ((with_reducible refine Below.trans ?_ (Below.mono (by with_reducible assumption) ?_)); rotate_left; focus (go_size; done))))⟩
      · go_wp2_with ((go_at_call 16; with_reducible refine (HF'.out _).mono ?_); rintro _ w1 ⟨rfl, hb1⟩; have hb1s := hb1.size; (try simp only [World.size_alloc, World.size_setCell, World.size_drew, World.heap_drewN] at hb1s); obtain ⟨hb1c, hb1f⟩ := bcell hb1; (try have : w.heap.size < w1.heap.size := by omega); (try have : w.heap.size + 1 < w1.heap.size := by omega); (try have : w.heap.size + 1 + 1 < w1.heap.size := by omega); (try have : w.heap.size + 1 + 1 + 1 < w1.heap.size := by omega))
        go_roundg 0
        case measure => have := HK.out; omega
        case rel => exact ⟨2, rfl, rfl, .inr (by simp), .inr (by simp), by (repeat' (first | (with_reducible exact Below.refl _ _) | (with_reducible assumption) | (with_reducible refine Below.drew ?_) | (with_reducible refine below_drewN ?_ _) | ((with_reducible refine Below.alloc ?_ ?_ _); rotate_left; focus (go_size; done)) | ((with_reducible refine Below.setCell ?_ ?_ _); rotate_left; focus (go_size; done)) | ((with_reducible refine Below.trans ?_ (Below.mono (by with_reducible assumption) ?_)); rotate_left; focus (go_size; done))))⟩
    · obtain rfl : v = true := by simpa using hv
      obtain rfl : v' = true := by simpa using hv'
      clear hv hv' bg
      go_wp2_with fail
      go_ret
      exact ⟨rfl, by (repeat' (first | (with_reducible exact Below.refl _ _) | (with_reducible assumption) | (with_reducible refine Below.drew ?_) | (with_reducible refine below_drewN ?_ _) | ((with_reducible refine Below.alloc ?_ ?_ _); rotate_left; focus (go_size; done)) | ((with_reducible refine Below.setCell ?_ ?_ _); rotate_left; focus (go_size; done)) | ((with_reducible refine Below.trans ?_ (Below.mono (by with_reducible assumption) ?_)); rotate_left; focus (go_size; done))))⟩
end Go.Proofs.Ythkgjodidkpaeaa
