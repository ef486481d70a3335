/- The contracts of the functions that the law reaches, part 3: what each returns and what becomes of memory. -/
import Derived.BigQuiet
import Derived.Test.YtanjbdhjnmmfdaaDoorSh
import Derived.ProofKit
import Derived.OpenShut
import Derived.ShutString
import Derived.ChangeOld
import Derived.Below
import Derived.Lib.SmallJoins
import Derived.Deep.Matrix
import Derived.ChangeArms
import Derived.Lib.LaidIn
import Derived.Lib.LaidU8T
import Derived.Test.YtanjbdhjnmmfdaaDoorCards
import Derived.Test.YtanjbdhjnmmfdaaDoorTie
import Derived.Deep.DeepHandedRow
import Derived.LaidMore
import Derived.Lay
import Derived.SevenTiedAt
import Derived.Test.YtanjbdhjnmmfdaaDoorM1
import Derived.Test.YtanjbdhjnmmfdaaDoorM2
set_option linter.unusedSimpArgs false
set_option linter.unusedVariables false
namespace Go.Proofs.YtanjbdhjnmmfdaaDoor
open Go.RowKit

def chkV (d : VD) : Int := if 1000 < d.size then 6 else if 16 < d.deep then 7 else if okV d then 0 else 2
/-- a value as it stands in a call -/
@[reducible] def vargs (d : VD) (A : Option Addr) (C : Nat) (A2 : Option Addr) (C2 : Nat) : Value := vagg d.s (.slice A d.list.length C) (.slice A2 d.names.length C2)
def VA (w : World) (d : VD) (A : Option Addr) (C : Nat) (A2 : Option Addr) (C2 : Nat) : Prop := RV w (.slice A d.list.length C) (.slice A2 d.names.length C2) d
theorem VA.below {w w' : World} {d : VD} {A : Option Addr} {C : Nat} {A2 : Option Addr} {C2 : Nat} (h : VA w d A C A2 C2) (hb : Below w.heap.size w w') : VA w' d A C A2 C2 := RV.below h hb
theorem cnt_gt {s : Nat} {m : Int} : m < cnt s m ↔ m < s := by unfold cnt; split <;> omega
set_option maxRecDepth 100000 in
set_option maxHeartbeats 1000000 in
theorem vcheck_any (d : VD) (A : Option Addr) (C : Nat) (A2 : Option Addr) (C2 : Nat) (w : World) (hT : Tabs w) (h : VA w d A C A2 C2) :
    Calls Tryd.prog 17 #[vargs d A C A2 C2] w fun e w' => e = .returned (.int .i64 (chkV d)) ∧ Below w.heap.size w w' := by
  obtain ⟨n, hn⟩ := h
  have hc1 := fun (W : World) (hW : Below w.heap.size w W) => count_any n d (.slice A d.list.length C) (.slice A2 d.names.length C2) 1000 W (by omega) (by omega) (hn.below hW)
  have hc2 := fun (W : World) (hW : Below w.heap.size w W) (hz : d.size ≤ 1000000) => shape_any n d (.slice A d.list.length C) (.slice A2 d.names.length C2) W (tabs_below hT hW) hz (hn.below hW)
  obtain ⟨z, hz⟩ : ∃ z, z = chkV d := ⟨_, rfl⟩
  rw [← hz]
  unfold chkV at hz
  obtain ⟨S, hS⟩ : ∃ S, S = d.size := ⟨_, rfl⟩
  obtain ⟨D, hD⟩ : ∃ D, D = d.deep := ⟨_, rfl⟩
  obtain ⟨K, hK⟩ : ∃ K, K = okV d := ⟨_, rfl⟩
  rw [← hS, ← hD, ← hK] at hz
  rw [← hS] at hc1
  rw [← hS, ← hD, ← hK] at hc2
  have hcb := cnt_le (s := S) (m := 1000) (by omega) (by rw [hS]; exact size_pos d)
  have hgt := cnt_gt (s := S) (m := 1000)
  obtain ⟨c, hc⟩ : ∃ c, c = cnt S 1000 := ⟨_, rfl⟩
  rw [← hc] at hc1 hcb hgt
  obtain ⟨s, l, nm⟩ := d
  obtain ⟨kind, yes, neg, coef, sc, text, day⟩ := s
  unfold vargs vagg
  unfold vagg at hc1 hc2
  dsimp only [VD.s, VD.list, VD.names] at hc1 hc2 ⊢
  have H1 := Lib.hid hc1
  have H2 := Lib.hid hc2
  clear hc1 hc2 hn hS hD hK hT hc
  by_cases hb : (1000 : Int) < c
  · obtain rfl : z = 6 := by rw [hz, if_pos (by have := hgt.1 hb; omega)]
    clear hz hgt H2
    go_enter Tryd.func17, Tryd.ntmps17
    go_wp2_with ((go_at_call 30; with_reducible refine (H1.out _ (by (repeat' (first | (with_reducible exact Below.refl _ _) | (with_reducible assumption) | (with_reducible refine Below.drew ?_) | (with_reducible refine below_drewN ?_ _) | ((with_reducible refine Below.alloc ?_ ?_ _); rotate_left; focus (go_size; done)) | ((with_reducible refine Below.setCell ?_ ?_ _); rotate_left; focus (go_size; done)) | ((with_reducible refine Below.trans ?_ (Below.mono (by with_reducible assumption) ?_)); rotate_left; focus (go_size; done)))))).mono ?_); rintro _ w1 ⟨rfl, hb1⟩; have hb1s := hb1.size; (try simp only [World.size_alloc, World.size_setCell, World.size_drew, World.heap_drewN] at hb1s); obtain ⟨hb1c, hb1f⟩ := bcell hb1; (try have : w.heap.size < w1.heap.size := by omega); (try have : w.heap.size + 1 < w1.heap.size := by omega); (try have : w.heap.size + 1 + 1 < w1.heap.size := by omega); (try have : w.heap.size + 1 + 1 + 1 < w1.heap.size := by omega))
    go_ret
    exact ⟨rfl, by (repeat' (first | (with_reducible exact Below.refl _ _) | (with_reducible assumption) | (with_reducible refine Below.drew ?_) | (with_reducible refine below_drewN ?_ _) | ((with_reducible refine Below.alloc ?_ ?_ _); rotate_left; focus (go_size; done)) | ((with_reducible refine Below.setCell ?_ ?_ _); rotate_left; focus (go_size; done)) | ((with_reducible refine Below.trans ?_ (Below.mono (by with_reducible assumption) ?_)); rotate_left; focus (go_size; done))))⟩
  · have hs : ¬ 1000 < S := fun h => hb (hgt.2 (by omega))
    rw [if_neg hs] at hz
    have H3 := Lib.hid (fun W hW => H2.out W hW (by omega))
    clear H2 hgt hs
    by_cases hd : 16 < D
    · obtain rfl : z = 7 := by rw [hz, if_pos hd]
      have hd' : (16 : Int) < (D : Int) := by omega
      clear hz
      go_enter Tryd.func17, Tryd.ntmps17
      go_wp2_with (first | ((go_at_call 30; with_reducible refine (H1.out _ (by (repeat' (first | (with_reducible exact Below.refl _ _) | (with_reducible assumption) | (with_reducible refine Below.drew ?_) | (with_reducible refine below_drewN ?_ _) | ((with_reducible refine Below.alloc ?_ ?_ _); rotate_left; focus (go_size; done)) | ((with_reducible refine Below.setCell ?_ ?_ _); rotate_left; focus (go_size; done)) | ((with_reducible refine Below.trans ?_ (Below.mono (by with_reducible assumption) ?_)); rotate_left; focus (go_size; done)))))).mono ?_); rintro _ w1 ⟨rfl, hb1⟩; have hb1s := hb1.size; (try simp only [World.size_alloc, World.size_setCell, World.size_drew, World.heap_drewN] at hb1s); obtain ⟨hb1c, hb1f⟩ := bcell hb1; (try have : w.heap.size < w1.heap.size := by omega); (try have : w.heap.size + 1 < w1.heap.size := by omega); (try have : w.heap.size + 1 + 1 < w1.heap.size := by omega); (try have : w.heap.size + 1 + 1 + 1 < w1.heap.size := by omega)) | ((go_at_call 31; with_reducible refine (H3.out _ (by (repeat' (first | (with_reducible exact Below.refl _ _) | (with_reducible assumption) | (with_reducible refine Below.drew ?_) | (with_reducible refine below_drewN ?_ _) | ((with_reducible refine Below.alloc ?_ ?_ _); rotate_left; focus (go_size; done)) | ((with_reducible refine Below.setCell ?_ ?_ _); rotate_left; focus (go_size; done)) | ((with_reducible refine Below.trans ?_ (Below.mono (by with_reducible assumption) ?_)); rotate_left; focus (go_size; done)))))).mono ?_); rintro _ w2 ⟨rfl, hb2⟩; have hb2s := hb2.size; (try simp only [World.size_alloc, World.size_setCell, World.size_drew, World.heap_drewN] at hb2s); obtain ⟨hb2c, hb2f⟩ := bcell hb2; (try have : w.heap.size < w2.heap.size := by omega); (try have : w.heap.size + 1 < w2.heap.size := by omega); (try have : w.heap.size + 1 + 1 < w2.heap.size := by omega); (try have : w.heap.size + 1 + 1 + 1 < w2.heap.size := by omega); (try have : w1.heap.size < w2.heap.size := by omega); (try have : w1.heap.size + 1 < w2.heap.size := by omega); (try have : w1.heap.size + 1 + 1 < w2.heap.size := by omega); (try have : w1.heap.size + 1 + 1 + 1 < w2.heap.size := by omega)))
      go_ret
      exact ⟨rfl, by (repeat' (first | (with_reducible exact Below.refl _ _) | (with_reducible assumption) | (with_reducible refine Below.drew ?_) | (with_reducible refine below_drewN ?_ _) | ((with_reducible refine Below.alloc ?_ ?_ _); rotate_left; focus (go_size; done)) | ((with_reducible refine Below.setCell ?_ ?_ _); rotate_left; focus (go_size; done)) | ((with_reducible refine Below.trans ?_ (Below.mono (by with_reducible assumption) ?_)); rotate_left; focus (go_size; done))))⟩
    · rw [if_neg hd] at hz
      have hd' : ¬ (16 : Int) < (D : Int) := by omega
      cases K with
      | true =>
        obtain rfl : z = 0 := hz
        go_enter Tryd.func17, Tryd.ntmps17
        go_wp2_with (first | ((go_at_call 30; with_reducible refine (H1.out _ (by (repeat' (first | (with_reducible exact Below.refl _ _) | (with_reducible assumption) | (with_reducible refine Below.drew ?_) | (with_reducible refine below_drewN ?_ _) | ((with_reducible refine Below.alloc ?_ ?_ _); rotate_left; focus (go_size; done)) | ((with_reducible refine Below.setCell ?_ ?_ _); rotate_left; focus (go_size; done)) | ((with_reducible refine Below.trans ?_ (Below.mono (by with_reducible assumption) ?_)); rotate_left; focus (go_size; done)))))).mono ?_); rintro _ w1 ⟨rfl, hb1⟩; have hb1s := hb1.size; (try simp only [World.size_alloc, World.size_setCell, World.size_drew, World.heap_drewN] at hb1s); obtain ⟨hb1c, hb1f⟩ := bcell hb1; (try have : w.heap.size < w1.heap.size := by omega); (try have : w.heap.size + 1 < w1.heap.size := by omega); (try have : w.heap.size + 1 + 1 < w1.heap.size := by omega); (try have : w.heap.size + 1 + 1 + 1 < w1.heap.size := by omega)) | ((go_at_call 31; with_reducible refine (H3.out _ (by (repeat' (first | (with_reducible exact Below.refl _ _) | (with_reducible assumption) | (with_reducible refine Below.drew ?_) | (with_reducible refine below_drewN ?_ _) | ((with_reducible refine Below.alloc ?_ ?_ _); rotate_left; focus (go_size; done)) | ((with_reducible refine Below.setCell ?_ ?_ _); rotate_left; focus (go_size; done)) | ((with_reducible refine Below.trans ?_ (Below.mono (by with_reducible assumption) ?_)); rotate_left; focus (go_size; done)))))).mono ?_); rintro _ w2 ⟨rfl, hb2⟩; have hb2s := hb2.size; (try simp only [World.size_alloc, World.size_setCell, World.size_drew, World.heap_drewN] at hb2s); obtain ⟨hb2c, hb2f⟩ := bcell hb2; (try have : w.heap.size < w2.heap.size := by omega); (try have : w.heap.size + 1 < w2.heap.size := by omega); (try have : w.heap.size + 1 + 1 < w2.heap.size := by omega); (try have : w.heap.size + 1 + 1 + 1 < w2.heap.size := by omega); (try have : w1.heap.size < w2.heap.size := by omega); (try have : w1.heap.size + 1 < w2.heap.size := by omega); (try have : w1.heap.size + 1 + 1 < w2.heap.size := by omega); (try have : w1.heap.size + 1 + 1 + 1 < w2.heap.size := by omega)))
        go_ret
        exact ⟨rfl, by (repeat' (first | (with_reducible exact Below.refl _ _) | (with_reducible assumption) | (with_reducible refine Below.drew ?_) | (with_reducible refine below_drewN ?_ _) | ((with_reducible refine Below.alloc ?_ ?_ _); rotate_left; focus (go_size; done)) | ((with_reducible refine Below.setCell ?_ ?_ _); rotate_left; focus (go_size; done)) | ((with_reducible refine Below.trans ?_ (Below.mono (by with_reducible assumption) ?_)); rotate_left; focus (go_size; done))))⟩
      | false =>
        obtain rfl : z = 2 := hz
        go_enter Tryd.func17, Tryd.ntmps17
        go_wp2_with (first | ((go_at_call 30; with_reducible refine (H1.out _ (by (repeat' (first | (with_reducible exact Below.refl _ _) | (with_reducible assumption) | (with_reducible refine Below.drew ?_) | (with_reducible refine below_drewN ?_ _) | ((with_reducible refine Below.alloc ?_ ?_ _); rotate_left; focus (go_size; done)) | ((with_reducible refine Below.setCell ?_ ?_ _); rotate_left; focus (go_size; done)) | ((with_reducible refine Below.trans ?_ (Below.mono (by with_reducible assumption) ?_)); rotate_left; focus (go_size; done)))))).mono ?_); rintro _ w1 ⟨rfl, hb1⟩; have hb1s := hb1.size; (try simp only [World.size_alloc, World.size_setCell, World.size_drew, World.heap_drewN] at hb1s); obtain ⟨hb1c, hb1f⟩ := bcell hb1; (try have : w.heap.size < w1.heap.size := by omega); (try have : w.heap.size + 1 < w1.heap.size := by omega); (try have : w.heap.size + 1 + 1 < w1.heap.size := by omega); (try have : w.heap.size + 1 + 1 + 1 < w1.heap.size := by omega)) | ((go_at_call 31; with_reducible refine (H3.out _ (by (repeat' (first | (with_reducible exact Below.refl _ _) | (with_reducible assumption) | (with_reducible refine Below.drew ?_) | (with_reducible refine below_drewN ?_ _) | ((with_reducible refine Below.alloc ?_ ?_ _); rotate_left; focus (go_size; done)) | ((with_reducible refine Below.setCell ?_ ?_ _); rotate_left; focus (go_size; done)) | ((with_reducible refine Below.trans ?_ (Below.mono (by with_reducible assumption) ?_)); rotate_left; focus (go_size; done)))))).mono ?_); rintro _ w2 ⟨rfl, hb2⟩; have hb2s := hb2.size; (try simp only [World.size_alloc, World.size_setCell, World.size_drew, World.heap_drewN] at hb2s); obtain ⟨hb2c, hb2f⟩ := bcell hb2; (try have : w.heap.size < w2.heap.size := by omega); (try have : w.heap.size + 1 < w2.heap.size := by omega); (try have : w.heap.size + 1 + 1 < w2.heap.size := by omega); (try have : w.heap.size + 1 + 1 + 1 < w2.heap.size := by omega); (try have : w1.heap.size < w2.heap.size := by omega); (try have : w1.heap.size + 1 < w2.heap.size := by omega); (try have : w1.heap.size + 1 + 1 < w2.heap.size := by omega); (try have : w1.heap.size + 1 + 1 + 1 < w2.heap.size := by omega)))
        go_ret
        exact ⟨rfl, by (repeat' (first | (with_reducible exact Below.refl _ _) | (with_reducible assumption) | (with_reducible refine Below.drew ?_) | (with_reducible refine below_drewN ?_ _) | ((with_reducible refine Below.alloc ?_ ?_ _); rotate_left; focus (go_size; done)) | ((with_reducible refine Below.setCell ?_ ?_ _); rotate_left; focus (go_size; done)) | ((with_reducible refine Below.trans ?_ (Below.mono (by with_reducible assumption) ?_)); rotate_left; focus (go_size; done))))⟩
set_option maxRecDepth 100000 in
set_option maxHeartbeats 1000000 in
theorem rcheck_any (d : VD) (A : Option Addr) (C : Nat) (A2 : Option Addr) (C2 : Nat) (w : World) (h : VA w d A C A2 C2) (hsz : d.size ≤ 1048576) :
    Calls Tryd.prog 11 #[vargs d A C A2 C2] w fun e w' => e = .returned (.int .i64 (chkV d)) ∧ Below w.heap.size w w' := by
  have hc1 := fun (W : World) (hW : Below w.heap.size w W) => rcount_any d A C A2 C2 1000 W (by omega) (by omega) (RV.below h hW) hsz
  obtain ⟨n, hn⟩ := h
  have hc2 := fun (W : World) (hW : Below w.heap.size w W) (hz : d.size ≤ 1000000) => depth_any n d (.slice A d.list.length C) (.slice A2 d.names.length C2) W hz (hn.below hW)
  have hc3 := fun (W : World) (hW : Below w.heap.size w W) (hz : d.size ≤ 1000000) => rform7_any n d (.slice A d.list.length C) (.slice A2 d.names.length C2) W hz (hn.below hW)
  obtain ⟨z, hz⟩ : ∃ z, z = chkV d := ⟨_, rfl⟩
  rw [← hz]
  unfold chkV at hz
  obtain ⟨S, hS⟩ : ∃ S, S = d.size := ⟨_, rfl⟩
  obtain ⟨D, hD⟩ : ∃ D, D = d.deep := ⟨_, rfl⟩
  obtain ⟨K, hK⟩ : ∃ K, K = okV d := ⟨_, rfl⟩
  rw [← hS, ← hD, ← hK] at hz
  rw [← hS] at hc1
  rw [← hS, ← hD] at hc2
  rw [← hS, ← hK] at hc3
  have hcb := cnt_le (s := S) (m := 1000) (by omega) (by rw [hS]; exact size_pos d)
  have hgt := cnt_gt (s := S) (m := 1000)
  obtain ⟨c, hc⟩ : ∃ c, c = cnt S 1000 := ⟨_, rfl⟩
  rw [← hc] at hc1 hcb hgt
  obtain ⟨s, l, nm⟩ := d
  obtain ⟨kind, yes, neg, coef, sc, text, day⟩ := s
  unfold vargs vagg
  unfold vagg at hc1 hc2 hc3
  dsimp only [VD.s, VD.list, VD.names] at hc1 hc2 hc3 ⊢
  have H1 := Lib.hid hc1
  have H2 := Lib.hid hc2
  have H3 := Lib.hid hc3
  clear hc1 hc2 hc3 hn hS hD hK hc hsz
  by_cases hb : (1000 : Int) < c
  · obtain rfl : z = 6 := by rw [hz, if_pos (by have := hgt.1 hb; omega)]
    clear hz hgt H2 H3
    go_enter Tryd.func11, Tryd.ntmps11
    go_wp2_with ((go_at_call 23; with_reducible refine (H1.out _ (by (repeat' (first | (with_reducible exact Below.refl _ _) | (with_reducible assumption) | (with_reducible refine Below.drew ?_) | (with_reducible refine below_drewN ?_ _) | ((with_reducible refine Below.alloc ?_ ?_ _); rotate_left; focus (go_size; done)) | ((with_reducible refine Below.setCell ?_ ?_ _); rotate_left; focus (go_size; done)) | ((with_reducible refine Below.trans ?_ (Below.mono (by with_reducible assumption) ?_)); rotate_left; focus (go_size; done)))))).mono ?_); rintro _ w1 ⟨rfl, hb1⟩; have hb1s := hb1.size; (try simp only [World.size_alloc, World.size_setCell, World.size_drew, World.heap_drewN] at hb1s); obtain ⟨hb1c, hb1f⟩ := bcell hb1; (try have : w.heap.size < w1.heap.size := by omega); (try have : w.heap.size + 1 < w1.heap.size := by omega); (try have : w.heap.size + 1 + 1 < w1.heap.size := by omega); (try have : w.heap.size + 1 + 1 + 1 < w1.heap.size := by omega))
    go_ret
    exact ⟨rfl, by (repeat' (first | (with_reducible exact Below.refl _ _) | (with_reducible assumption) | (with_reducible refine Below.drew ?_) | (with_reducible refine below_drewN ?_ _) | ((with_reducible refine Below.alloc ?_ ?_ _); rotate_left; focus (go_size; done)) | ((with_reducible refine Below.setCell ?_ ?_ _); rotate_left; focus (go_size; done)) | ((with_reducible refine Below.trans ?_ (Below.mono (by with_reducible assumption) ?_)); rotate_left; focus (go_size; done))))⟩
  · have hs : ¬ 1000 < S := fun h => hb (hgt.2 (by omega))
    rw [if_neg hs] at hz
    have H4 := Lib.hid (fun W hW => H2.out W hW (by omega))
    have H5 := Lib.hid (fun W hW => H3.out W hW (by omega))
    clear H2 H3 hgt hs
    by_cases hd : 16 < D
    · obtain rfl : z = 7 := by rw [hz, if_pos hd]
      have hd' : (16 : Int) < (D : Int) := by omega
      clear hz
      go_enter Tryd.func11, Tryd.ntmps11
      go_wp2_with (first | ((go_at_call 23; with_reducible refine (H1.out _ (by (repeat' (first | (with_reducible exact Below.refl _ _) | (with_reducible assumption) | (with_reducible refine Below.drew ?_) | (with_reducible refine below_drewN ?_ _) | ((with_reducible refine Below.alloc ?_ ?_ _); rotate_left; focus (go_size; done)) | ((with_reducible refine Below.setCell ?_ ?_ _); rotate_left; focus (go_size; done)) | ((with_reducible refine Below.trans ?_ (Below.mono (by with_reducible assumption) ?_)); rotate_left; focus (go_size; done)))))).mono ?_); rintro _ w1 ⟨rfl, hb1⟩; have hb1s := hb1.size; (try simp only [World.size_alloc, World.size_setCell, World.size_drew, World.heap_drewN] at hb1s); obtain ⟨hb1c, hb1f⟩ := bcell hb1; (try have : w.heap.size < w1.heap.size := by omega); (try have : w.heap.size + 1 < w1.heap.size := by omega); (try have : w.heap.size + 1 + 1 < w1.heap.size := by omega); (try have : w.heap.size + 1 + 1 + 1 < w1.heap.size := by omega)) | ((go_at_call 24; with_reducible refine (H4.out _ (by (repeat' (first | (with_reducible exact Below.refl _ _) | (with_reducible assumption) | (with_reducible refine Below.drew ?_) | (with_reducible refine below_drewN ?_ _) | ((with_reducible refine Below.alloc ?_ ?_ _); rotate_left; focus (go_size; done)) | ((with_reducible refine Below.setCell ?_ ?_ _); rotate_left; focus (go_size; done)) | ((with_reducible refine Below.trans ?_ (Below.mono (by with_reducible assumption) ?_)); rotate_left; focus (go_size; done)))))).mono ?_); rintro _ w2 ⟨rfl, hb2⟩; have hb2s := hb2.size; (try simp only [World.size_alloc, World.size_setCell, World.size_drew, World.heap_drewN] at hb2s); obtain ⟨hb2c, hb2f⟩ := bcell hb2; (try have : w.heap.size < w2.heap.size := by omega); (try have : w.heap.size + 1 < w2.heap.size := by omega); (try have : w.heap.size + 1 + 1 < w2.heap.size := by omega); (try have : w.heap.size + 1 + 1 + 1 < w2.heap.size := by omega); (try have : w1.heap.size < w2.heap.size := by omega); (try have : w1.heap.size + 1 < w2.heap.size := by omega); (try have : w1.heap.size + 1 + 1 < w2.heap.size := by omega); (try have : w1.heap.size + 1 + 1 + 1 < w2.heap.size := by omega)))
      go_ret
      exact ⟨rfl, by (repeat' (first | (with_reducible exact Below.refl _ _) | (with_reducible assumption) | (with_reducible refine Below.drew ?_) | (with_reducible refine below_drewN ?_ _) | ((with_reducible refine Below.alloc ?_ ?_ _); rotate_left; focus (go_size; done)) | ((with_reducible refine Below.setCell ?_ ?_ _); rotate_left; focus (go_size; done)) | ((with_reducible refine Below.trans ?_ (Below.mono (by with_reducible assumption) ?_)); rotate_left; focus (go_size; done))))⟩
    · rw [if_neg hd] at hz
      have hd' : ¬ (16 : Int) < (D : Int) := by omega
      cases K with
      | true =>
        obtain rfl : z = 0 := hz
        go_enter Tryd.func11, Tryd.ntmps11
        go_wp2_with (first | ((go_at_call 23; with_reducible refine (H1.out _ (by (repeat' (first | (with_reducible exact Below.refl _ _) | (with_reducible assumption) | (with_reducible refine Below.drew ?_) | (with_reducible refine below_drewN ?_ _) | ((with_reducible refine Below.alloc ?_ ?_ _); rotate_left; focus (go_size; done)) | ((with_reducible refine Below.setCell ?_ ?_ _); rotate_left; focus (go_size; done)) | ((with_reducible refine Below.trans ?_ (Below.mono (by with_reducible assumption) ?_)); rotate_left; focus (go_size; done)))))).mono ?_); rintro _ w1 ⟨rfl, hb1⟩; have hb1s := hb1.size; (try simp only [World.size_alloc, World.size_setCell, World.size_drew, World.heap_drewN] at hb1s); obtain ⟨hb1c, hb1f⟩ := bcell hb1; (try have : w.heap.size < w1.heap.size := by omega); (try have : w.heap.size + 1 < w1.heap.size := by omega); (try have : w.heap.size + 1 + 1 < w1.heap.size := by omega); (try have : w.heap.size + 1 + 1 + 1 < w1.heap.size := by omega)) | ((go_at_call 24; with_reducible refine (H4.out _ (by (repeat' (first | (with_reducible exact Below.refl _ _) | (with_reducible assumption) | (with_reducible refine Below.drew ?_) | (with_reducible refine below_drewN ?_ _) | ((with_reducible refine Below.alloc ?_ ?_ _); rotate_left; focus (go_size; done)) | ((with_reducible refine Below.setCell ?_ ?_ _); rotate_left; focus (go_size; done)) | ((with_reducible refine Below.trans ?_ (Below.mono (by with_reducible assumption) ?_)); rotate_left; focus (go_size; done)))))).mono ?_); rintro _ w2 ⟨rfl, hb2⟩; have hb2s := hb2.size; (try simp only [World.size_alloc, World.size_setCell, World.size_drew, World.heap_drewN] at hb2s); obtain ⟨hb2c, hb2f⟩ := bcell hb2; (try have : w.heap.size < w2.heap.size := by omega); (try have : w.heap.size + 1 < w2.heap.size := by omega); (try have : w.heap.size + 1 + 1 < w2.heap.size := by omega); (try have : w.heap.size + 1 + 1 + 1 < w2.heap.size := by omega); (try have : w1.heap.size < w2.heap.size := by omega); (try have : w1.heap.size + 1 < w2.heap.size := by omega); (try have : w1.heap.size + 1 + 1 < w2.heap.size := by omega); (try have : w1.heap.size + 1 + 1 + 1 < w2.heap.size := by omega)) | ((go_at_call 25; with_reducible refine (H5.out _ (by (repeat' (first | (with_reducible exact Below.refl _ _) | (with_reducible assumption) | (with_reducible refine Below.drew ?_) | (with_reducible refine below_drewN ?_ _) | ((with_reducible refine Below.alloc ?_ ?_ _); rotate_left; focus (go_size; done)) | ((with_reducible refine Below.setCell ?_ ?_ _); rotate_left; focus (go_size; done)) | ((with_reducible refine Below.trans ?_ (Below.mono (by with_reducible assumption) ?_)); rotate_left; focus (go_size; done)))))).mono ?_); rintro _ w3 ⟨rfl, hb3⟩; have hb3s := hb3.size; (try simp only [World.size_alloc, World.size_setCell, World.size_drew, World.heap_drewN] at hb3s); obtain ⟨hb3c, hb3f⟩ := bcell hb3; (try have : w.heap.size < w3.heap.size := by omega); (try have : w.heap.size + 1 < w3.heap.size := by omega); (try have : w.heap.size + 1 + 1 < w3.heap.size := by omega); (try have : w.heap.size + 1 + 1 + 1 < w3.heap.size := by omega); (try have : w1.heap.size < w3.heap.size := by omega); (try have : w1.heap.size + 1 < w3.heap.size := by omega); (try have : w1.heap.size + 1 + 1 < w3.heap.size := by omega); (try have : w1.heap.size + 1 + 1 + 1 < w3.heap.size := by omega); (try have : w2.heap.size < w3.heap.size := by omega); (try have : w2.heap.size + 1 < w3.heap.size := by omega); (try have : w2.heap.size + 1 + 1 < w3.heap.size := by omega); (try have : w2.heap.size + 1 + 1 + 1 < w3.heap.size := by omega)))
        go_ret
        exact ⟨rfl, by (repeat' (first | (with_reducible exact Below.refl _ _) | (with_reducible assumption) | (with_reducible refine Below.drew ?_) | (with_reducible refine below_drewN ?_ _) | ((with_reducible refine Below.alloc ?_ ?_ _); rotate_left; focus (go_size; done)) | ((with_reducible refine Below.setCell ?_ ?_ _); rotate_left; focus (go_size; done)) | ((with_reducible refine Below.trans ?_ (Below.mono (by with_reducible assumption) ?_)); rotate_left; focus (go_size; done))))⟩
      | false =>
        obtain rfl : z = 2 := hz
        go_enter Tryd.func11, Tryd.ntmps11
        go_wp2_with (first | ((go_at_call 23; with_reducible refine (H1.out _ (by (repeat' (first | (with_reducible exact Below.refl _ _) | (with_reducible assumption) | (with_reducible refine Below.drew ?_) | (with_reducible refine below_drewN ?_ _) | ((with_reducible refine Below.alloc ?_ ?_ _); rotate_left; focus (go_size; done)) | ((with_reducible refine Below.setCell ?_ ?_ _); rotate_left; focus (go_size; done)) | ((with_reducible refine Below.trans ?_ (Below.mono (by with_reducible assumption) ?_)); rotate_left; focus (go_size; done)))))).mono ?_); rintro _ w1 ⟨rfl, hb1⟩; have hb1s := hb1.size; (try simp only [World.size_alloc, World.size_setCell, World.size_drew, World.heap_drewN] at hb1s); obtain ⟨hb1c, hb1f⟩ := bcell hb1; (try have : w.heap.size < w1.heap.size := by omega); (try have : w.heap.size + 1 < w1.heap.size := by omega); (try have : w.heap.size + 1 + 1 < w1.heap.size := by omega); (try have : w.heap.size + 1 + 1 + 1 < w1.heap.size := by omega)) | ((go_at_call 24; with_reducible refine (H4.out _ (by (repeat' (first | (with_reducible exact Below.refl _ _) | (with_reducible assumption) | (with_reducible refine Below.drew ?_) | (with_reducible refine below_drewN ?_ _) | ((with_reducible refine Below.alloc ?_ ?_ _); rotate_left; focus (go_size; done)) | ((with_reducible refine Below.setCell ?_ ?_ _); rotate_left; focus (go_size; done)) | ((with_reducible refine Below.trans ?_ (Below.mono (by with_reducible assumption) ?_)); rotate_left; focus (go_size; done)))))).mono ?_); rintro _ w2 ⟨rfl, hb2⟩; have hb2s := hb2.size; (try simp only [World.size_alloc, World.size_setCell, World.size_drew, World.heap_drewN] at hb2s); obtain ⟨hb2c, hb2f⟩ := bcell hb2; (try have : w.heap.size < w2.heap.size := by omega); (try have : w.heap.size + 1 < w2.heap.size := by omega); (try have : w.heap.size + 1 + 1 < w2.heap.size := by omega); (try have : w.heap.size + 1 + 1 + 1 < w2.heap.size := by omega); (try have : w1.heap.size < w2.heap.size := by omega); (try have : w1.heap.size + 1 < w2.heap.size := by omega); (try have : w1.heap.size + 1 + 1 < w2.heap.size := by omega); (try have : w1.heap.size + 1 + 1 + 1 < w2.heap.size := by omega)) | ((go_at_call 25; with_reducible refine (H5.out _ (by (repeat' (first | (with_reducible exact Below.refl _ _) | (with_reducible assumption) | (with_reducible refine Below.drew ?_) | (with_reducible refine below_drewN ?_ _) | ((with_reducible refine Below.alloc ?_ ?_ _); rotate_left; focus (go_size; done)) | ((with_reducible refine Below.setCell ?_ ?_ _); rotate_left; focus (go_size; done)) | ((with_reducible refine Below.trans ?_ (Below.mono (by with_reducible assumption) ?_)); rotate_left; focus (go_size; done)))))).mono ?_); rintro _ w3 ⟨rfl, hb3⟩; have hb3s := hb3.size; (try simp only [World.size_alloc, World.size_setCell, World.size_drew, World.heap_drewN] at hb3s); obtain ⟨hb3c, hb3f⟩ := bcell hb3; (try have : w.heap.size < w3.heap.size := by omega); (try have : w.heap.size + 1 < w3.heap.size := by omega); (try have : w.heap.size + 1 + 1 < w3.heap.size := by omega); (try have : w.heap.size + 1 + 1 + 1 < w3.heap.size := by omega); (try have : w1.heap.size < w3.heap.size := by omega); (try have : w1.heap.size + 1 < w3.heap.size := by omega); (try have : w1.heap.size + 1 + 1 < w3.heap.size := by omega); (try have : w1.heap.size + 1 + 1 + 1 < w3.heap.size := by omega); (try have : w2.heap.size < w3.heap.size := by omega); (try have : w2.heap.size + 1 < w3.heap.size := by omega); (try have : w2.heap.size + 1 + 1 < w3.heap.size := by omega); (try have : w2.heap.size + 1 + 1 + 1 < w3.heap.size := by omega)))
        go_ret
        exact ⟨rfl, by (repeat' (first | (with_reducible exact Below.refl _ _) | (with_reducible assumption) | (with_reducible refine Below.drew ?_) | (with_reducible refine below_drewN ?_ _) | ((with_reducible refine Below.alloc ?_ ?_ _); rotate_left; focus (go_size; done)) | ((with_reducible refine Below.setCell ?_ ?_ _); rotate_left; focus (go_size; done)) | ((with_reducible refine Below.trans ?_ (Below.mono (by with_reducible assumption) ?_)); rotate_left; focus (go_size; done))))⟩
end Go.Proofs.YtanjbdhjnmmfdaaDoor

set_option linter.unusedSimpArgs false
set_option linter.unusedVariables false
namespace Go.Proofs.YtanjbdhjnmmfdaaDoor
open Go.RowKit

def ofV (k : Int) (l : List VD) : Int × Int := if k = 6 then (0, 0) else if k = 5 then (5, itemsF 0 l) else (k, 0)
def fitsD (k : Int) (l : List VD) (tk tf : Int) : Bool := decide (k = 0 ∨ tk = 0) || (decide (k = tk) && (decide (tf = 0) || l.all fun x => decide (x.s.kind = 0 ∨ x.s.kind = tf)))
set_option maxRecDepth 100000 in
set_option maxHeartbeats 1000000 in
theorem rof_any (s : VS) (l : List VD) (A : Option Addr) (C : Nat) (N : Value) (w : World) (h : Vls (RV w) w (.slice A l.length C) l) (hk : s.kind = 5 ∨ s.kind = 6 ∨ l = []) :
    Calls Tryd.prog 16 #[vagg s (.slice A l.length C) N] w fun e w' => e = .returned (.agg #[.int .i64 (ofV s.kind l).1, .int .i64 (ofV s.kind l).2]) ∧ Below w.heap.size w w' := by
  obtain ⟨_, _, _, hll⟩ := h.is
  have HV := Lib.hid h
  obtain ⟨kind, yes, neg, coef, sc, text, day⟩ := s
  unfold vagg
  dsimp only at hk ⊢
  have hll2 : (l.length : Int) ≤ 1048576 := by omega
  clear h hll
  by_cases k6 : kind = 6
  · subst k6
    have e : ofV 6 l = (0, 0) := rfl
    rw [e]
    clear e hk
    go_enter Tryd.func16, Tryd.ntmps16
    go_wp2_with fail
    refine bodyPost_ret (by simp [results, Tryd.results16, go_sem, *]; try rfl) rfl ?_
    exact ⟨rfl, by (repeat' (first | (with_reducible exact Below.refl _ _) | (with_reducible assumption) | (with_reducible refine Below.drew ?_) | (with_reducible refine below_drewN ?_ _) | ((with_reducible refine Below.alloc ?_ ?_ _); rotate_left; focus (go_size; done)) | ((with_reducible refine Below.setCell ?_ ?_ _); rotate_left; focus (go_size; done)) | ((with_reducible refine Below.trans ?_ (Below.mono (by with_reducible assumption) ?_)); rotate_left; focus (go_size; done))))⟩
  · have e6 : (kind == 6) = false := by rw [beq_eq_false_iff_ne]; exact k6
    by_cases k5 : kind = 5
    · subst k5
      have e : ofV 5 l = (5, itemsF 0 l) := rfl
      rw [e]
      obtain ⟨z, hz⟩ : ∃ z, z = itemsF 0 l := ⟨_, rfl⟩
      dsimp only
      rw [← hz]
      have HZ := Lib.hid hz
      clear e hk hz k6
      go_enter Tryd.func16, Tryd.ntmps16
      go_wp2_with fail
      go_loopg [4, 5] l.length (fun k s4 s5 wr => ∃ (t : Nat) (q : Int), k + t = l.length ∧ s5 = .int .i64 t ∧ s4 = .bool (decide (q = 0)) ∧ Hid (z = itemsF q (l.drop t)) ∧ wr.cell? ⟨w.heap.size, 8, none⟩ = some (.slice A l.length C) ∧ Bk wr (w.heap.size + 1) 32 [.int .i64 0, .int .i64 0] ∧ Bk wr (w.heap.size + 1 + 1) 32 [.int .i64 5, .int .i64 q] ∧ w.heap.size + 2 < wr.heap.size ∧ Below w.heap.size w wr)
      case atStart => exact ⟨0, 0, by omega, rfl, rfl, Lib.hid (by rw [List.drop_zero]; exact HZ.out), by go_simp, by (repeat (first | (with_reducible assumption) | ((with_reducible refine Bk.new_ ?_); (first | rfl | (simp only [World.size_alloc, World.size_setCell, World.size_drew, World.heap_drewN]; done))) | (with_reducible refine Bk.alloc ?_ _) | (with_reducible refine Bk.drew ?_) | (with_reducible refine Bk.drewN ?_ _) | ((with_reducible refine Bk.far ?_ ?_ _); rotate_left; focus (simp only []; omega)) | ((with_reducible refine Bk.below ?_ (by with_reducible assumption) ?_); rotate_left; focus (go_size; done)))), by (repeat (first | (with_reducible assumption) | ((with_reducible refine Bk.new_ ?_); (first | rfl | (simp only [World.size_alloc, World.size_setCell, World.size_drew, World.heap_drewN]; done))) | (with_reducible refine Bk.alloc ?_ _) | (with_reducible refine Bk.drew ?_) | (with_reducible refine Bk.drewN ?_ _) | ((with_reducible refine Bk.far ?_ ?_ _); rotate_left; focus (simp only []; omega)) | ((with_reducible refine Bk.below ?_ (by with_reducible assumption) ?_); rotate_left; focus (go_size; done)))), by go_size, by (repeat' (first | (with_reducible exact Below.refl _ _) | (with_reducible assumption) | (with_reducible refine Below.drew ?_) | (with_reducible refine below_drewN ?_ _) | ((with_reducible refine Below.alloc ?_ ?_ _); rotate_left; focus (go_size; done)) | ((with_reducible refine Below.setCell ?_ ?_ _); rotate_left; focus (go_size; done)) | ((with_reducible refine Below.trans ?_ (Below.mono (by with_reducible assumption) ?_)); rotate_left; focus (go_size; done))))⟩
      case round =>
        obtain ⟨t, q, hk, rfl, rfl, HI, c8, b1, b2, hsz, hbel⟩ := hrel
        have HK := Lib.hid hk
        have htl : t ≤ l.length := by omega
        have c0 := b2.cell 0 rfl
        have c1 := b2.cell 1 rfl
        have f1 := b2.frozen 1
        have r0 := b1.cell 0 rfl
        have r1 := b1.cell 1 rfl
        have g0 := b1.frozen 0
        have g1 := b1.frozen 1
        have hw1 : w.heap.size < wr.heap.size := by omega
        have hw2 : w.heap.size + 1 < wr.heap.size := by omega
        have hw3 : w.heap.size + 1 + 1 < wr.heap.size := by omega
        have B1 := Lib.hid b1
        have B2 := Lib.hid b2
        clear hk b1 b2
        by_cases hlt : t < l.length
        · obtain ⟨b, o, E1, D1, E2, D2, rfl, hat, hx⟩ := (HV.out.kept hbel).at hlt
          obtain ⟨a0, a1, a2, a3, a4, a5, a6, a7, a8, a9⟩ := hat.val
          have lb := vcell_lt a0
          have hz := HI.out
          rw [drop_vg hlt] at hz
          unfold itemsF at hz
          obtain ⟨x, hxx⟩ : ∃ x, x = vg l t := ⟨_, rfl⟩
          rw [← hxx] at hz a0
          obtain ⟨k, hkk⟩ : ∃ k, k = x.s.kind := ⟨_, rfl⟩
          rw [← hkk] at hz a0
          clear hat hx hxx HI hkk a1 a2 a3 a4 a5 a6 a7 a8 a9
          by_cases k0 : k = 0
          · subst k0
            rw [if_pos rfl] at hz
            have HZ2 := Lib.hid hz
            clear hz
            go_wp2_with fail
            go_roundg (gk - 1)
            case measure => have := HK.out; omega
            case rel => exact ⟨t + 1, q, by have := HK.out; omega, by go_num, rfl, HZ2, c8, B1.out, B2.out, hsz, hbel⟩
          · rw [if_neg k0] at hz
            have e0 : (k == 0) = false := by rw [beq_eq_false_iff_ne]; exact k0
            by_cases k4 : 4 < k
            · rw [if_pos (.inl k4)] at hz
              subst hz
              go_wp2_with fail
              refine bodyPost_ret (by simp [results, Tryd.results16, go_sem, *]; try rfl) rfl ?_
              exact ⟨rfl, by (repeat' (first | (with_reducible exact Below.refl _ _) | (with_reducible assumption) | (with_reducible refine Below.drew ?_) | (with_reducible refine below_drewN ?_ _) | ((with_reducible refine Below.alloc ?_ ?_ _); rotate_left; focus (go_size; done)) | ((with_reducible refine Below.setCell ?_ ?_ _); rotate_left; focus (go_size; done)) | ((with_reducible refine Below.trans ?_ (Below.mono (by with_reducible assumption) ?_)); rotate_left; focus (go_size; done))))⟩
            · by_cases q0 : q = 0
              · subst q0
                rw [if_neg (by rintro (h | h); exact k4 h; exact h.1 rfl)] at hz
                have HZ2 := Lib.hid hz
                have HD : Hid (Value.bool false = Value.bool (decide (k = 0))) := Lib.hid (by rw [decide_eq_false k0])
                clear hz
                go_wp2_with fail
                go_roundg (gk - 1)
                case measure => have := HK.out; omega
                case rel =>
                  have b1 := B1.out
                  have b2 := B2.out
                  refine ⟨t + 1, k, by have := HK.out; omega, by go_num, HD.out, HZ2, by go_simp, by (repeat (first | (with_reducible assumption) | ((with_reducible refine Bk.new_ ?_); (first | rfl | (simp only [World.size_alloc, World.size_setCell, World.size_drew, World.heap_drewN]; done))) | (with_reducible refine Bk.alloc ?_ _) | (with_reducible refine Bk.drew ?_) | (with_reducible refine Bk.drewN ?_ _) | ((with_reducible refine Bk.far ?_ ?_ _); rotate_left; focus (simp only []; omega)) | ((with_reducible refine Bk.below ?_ (by with_reducible assumption) ?_); rotate_left; focus (go_size; done)))), b2.set_ 1 _, by go_size, by (repeat' (first | (with_reducible exact Below.refl _ _) | (with_reducible assumption) | (with_reducible refine Below.drew ?_) | (with_reducible refine below_drewN ?_ _) | ((with_reducible refine Below.alloc ?_ ?_ _); rotate_left; focus (go_size; done)) | ((with_reducible refine Below.setCell ?_ ?_ _); rotate_left; focus (go_size; done)) | ((with_reducible refine Below.trans ?_ (Below.mono (by with_reducible assumption) ?_)); rotate_left; focus (go_size; done))))⟩
              · by_cases kq : k = q
                · have f1' : (k != q) = false := by rw [bne_eq_false_iff_eq]; exact kq
                  have d0 : decide (q = 0) = false := decide_eq_false q0
                  rw [if_neg (by rintro (h | h); exact k4 h; exact h.2 kq)] at hz
                  have HZ2 := Lib.hid hz
                  have HD : Hid (Value.bool false = Value.bool (decide (k = 0))) := Lib.hid (by rw [decide_eq_false k0])
                  clear hz kq
                  go_wp2_with fail
                  go_roundg (gk - 1)
                  case measure => have := HK.out; omega
                  case rel =>
                    have b1 := B1.out
                    have b2 := B2.out
                    refine ⟨t + 1, k, by have := HK.out; omega, by go_num, HD.out, HZ2, by go_simp, by (repeat (first | (with_reducible assumption) | ((with_reducible refine Bk.new_ ?_); (first | rfl | (simp only [World.size_alloc, World.size_setCell, World.size_drew, World.heap_drewN]; done))) | (with_reducible refine Bk.alloc ?_ _) | (with_reducible refine Bk.drew ?_) | (with_reducible refine Bk.drewN ?_ _) | ((with_reducible refine Bk.far ?_ ?_ _); rotate_left; focus (simp only []; omega)) | ((with_reducible refine Bk.below ?_ (by with_reducible assumption) ?_); rotate_left; focus (go_size; done)))), b2.set_ 1 _, by go_size, by (repeat' (first | (with_reducible exact Below.refl _ _) | (with_reducible assumption) | (with_reducible refine Below.drew ?_) | (with_reducible refine below_drewN ?_ _) | ((with_reducible refine Below.alloc ?_ ?_ _); rotate_left; focus (go_size; done)) | ((with_reducible refine Below.setCell ?_ ?_ _); rotate_left; focus (go_size; done)) | ((with_reducible refine Below.trans ?_ (Below.mono (by with_reducible assumption) ?_)); rotate_left; focus (go_size; done))))⟩
                · have f1' : (k != q) = true := by rw [bne_iff_ne]; exact kq
                  have d0 : decide (q = 0) = false := decide_eq_false q0
                  rw [if_pos (.inr ⟨q0, kq⟩)] at hz
                  subst hz
                  clear kq
                  go_wp2_with fail
                  refine bodyPost_ret (by simp [results, Tryd.results16, go_sem, *]; try rfl) rfl ?_
                  exact ⟨rfl, by (repeat' (first | (with_reducible exact Below.refl _ _) | (with_reducible assumption) | (with_reducible refine Below.drew ?_) | (with_reducible refine below_drewN ?_ _) | ((with_reducible refine Below.alloc ?_ ?_ _); rotate_left; focus (go_size; done)) | ((with_reducible refine Below.setCell ?_ ?_ _); rotate_left; focus (go_size; done)) | ((with_reducible refine Below.trans ?_ (Below.mono (by with_reducible assumption) ?_)); rotate_left; focus (go_size; done))))⟩
        · obtain rfl : t = l.length := by omega
          have hz := HI.out
          rw [List.drop_length] at hz
          unfold itemsF at hz
          subst hz
          go_wp2_with fail
          refine bodyPost_ret (by simp [results, Tryd.results16, go_sem, *]; try rfl) rfl ?_
          exact ⟨rfl, by (repeat' (first | (with_reducible exact Below.refl _ _) | (with_reducible assumption) | (with_reducible refine Below.drew ?_) | (with_reducible refine below_drewN ?_ _) | ((with_reducible refine Below.alloc ?_ ?_ _); rotate_left; focus (go_size; done)) | ((with_reducible refine Below.setCell ?_ ?_ _); rotate_left; focus (go_size; done)) | ((with_reducible refine Below.trans ?_ (Below.mono (by with_reducible assumption) ?_)); rotate_left; focus (go_size; done))))⟩
    · have hl : l = [] := by
        rcases hk with h | h | h
        · exact absurd h k5
        · exact absurd h k6
        · exact h
      have e : ofV kind l = (kind, 0) := by unfold ofV; rw [if_neg k6, if_neg k5]
      rw [e]
      subst hl
      clear e hk k5 k6 HV
      go_enter Tryd.func16, Tryd.ntmps16
      go_wp2_with fail
      go_loopg [5] 0 (fun k s5 wr => s5 = .int .i64 0 ∧ wr.cell? ⟨w.heap.size, 8, none⟩ = some (.slice A 0 C) ∧ Bk wr (w.heap.size + 1) 32 [.int .i64 0, .int .i64 0] ∧ Bk wr (w.heap.size + 1 + 1) 32 [.int .i64 kind, .int .i64 0] ∧ Below w.heap.size w wr)
      case atStart => exact ⟨rfl, by go_simp, by (repeat (first | (with_reducible assumption) | ((with_reducible refine Bk.new_ ?_); (first | rfl | (simp only [World.size_alloc, World.size_setCell, World.size_drew, World.heap_drewN]; done))) | (with_reducible refine Bk.alloc ?_ _) | (with_reducible refine Bk.drew ?_) | (with_reducible refine Bk.drewN ?_ _) | ((with_reducible refine Bk.far ?_ ?_ _); rotate_left; focus (simp only []; omega)) | ((with_reducible refine Bk.below ?_ (by with_reducible assumption) ?_); rotate_left; focus (go_size; done)))), by (repeat (first | (with_reducible assumption) | ((with_reducible refine Bk.new_ ?_); (first | rfl | (simp only [World.size_alloc, World.size_setCell, World.size_drew, World.heap_drewN]; done))) | (with_reducible refine Bk.alloc ?_ _) | (with_reducible refine Bk.drew ?_) | (with_reducible refine Bk.drewN ?_ _) | ((with_reducible refine Bk.far ?_ ?_ _); rotate_left; focus (simp only []; omega)) | ((with_reducible refine Bk.below ?_ (by with_reducible assumption) ?_); rotate_left; focus (go_size; done)))), by (repeat' (first | (with_reducible exact Below.refl _ _) | (with_reducible assumption) | (with_reducible refine Below.drew ?_) | (with_reducible refine below_drewN ?_ _) | ((with_reducible refine Below.alloc ?_ ?_ _); rotate_left; focus (go_size; done)) | ((with_reducible refine Below.setCell ?_ ?_ _); rotate_left; focus (go_size; done)) | ((with_reducible refine Below.trans ?_ (Below.mono (by with_reducible assumption) ?_)); rotate_left; focus (go_size; done))))⟩
      case round =>
        obtain ⟨rfl, c8, b1, b2, hbel⟩ := hrel
        have c0 := b2.cell 0 rfl
        have c1 := b2.cell 1 rfl
        have r0 := b1.cell 0 rfl
        have r1 := b1.cell 1 rfl
        have g0 := b1.frozen 0
        have g1 := b1.frozen 1
        have lr := b1.lt
        have lt := b2.lt
        go_wp2_with fail
        refine bodyPost_ret (by simp [results, Tryd.results16, go_sem, *]; try rfl) rfl ?_
        exact ⟨rfl, by (repeat' (first | (with_reducible exact Below.refl _ _) | (with_reducible assumption) | (with_reducible refine Below.drew ?_) | (with_reducible refine below_drewN ?_ _) | ((with_reducible refine Below.alloc ?_ ?_ _); rotate_left; focus (go_size; done)) | ((with_reducible refine Below.setCell ?_ ?_ _); rotate_left; focus (go_size; done)) | ((with_reducible refine Below.trans ?_ (Below.mono (by with_reducible assumption) ?_)); rotate_left; focus (go_size; done))))⟩
end Go.Proofs.YtanjbdhjnmmfdaaDoor

set_option linter.unusedSimpArgs false
set_option linter.unusedVariables false
namespace Go.Proofs.YtanjbdhjnmmfdaaDoor
open Go.RowKit

theorem fitsD_stop {k tk tf : Int} {l : List VD} {t : Nat} (h : t < l.length) (hk : ¬ (k = 0 ∨ tk = 0)) (ho : tf ≠ 0) (h1 : (vg l t).s.kind ≠ 0) (h2 : (vg l t).s.kind ≠ tf) : fitsD k l tk tf = false := by
  unfold fitsD
  rw [decide_eq_false hk, decide_eq_false ho, Bool.false_or, Bool.false_or]
  have : (l.all fun x => decide (x.s.kind = 0 ∨ x.s.kind = tf)) = false := by
    rw [Bool.eq_false_iff]
    intro ha
    have hm : vg l t ∈ l := by
      unfold vg
      rw [List.getD_eq_getElem?_getD, List.getElem?_eq_getElem h]
      exact List.getElem_mem _
    have := of_decide_eq_true (List.all_eq_true.1 ha _ hm)
    rcases this with e | e
    · exact h1 e
    · exact h2 e
  rw [this, Bool.and_false]
theorem fitsD_all {k tk tf : Int} {l : List VD} (hk : ¬ (k = 0 ∨ tk = 0)) (ht : k = tk) (h : ∀ t, t < l.length → (vg l t).s.kind = 0 ∨ (vg l t).s.kind = tf) : fitsD k l tk tf = true := by
  unfold fitsD
  have : (l.all fun x => decide (x.s.kind = 0 ∨ x.s.kind = tf)) = true := by
    rw [List.all_eq_true]
    intro x hx
    obtain ⟨t, ht, rfl⟩ := List.mem_iff_getElem.1 hx
    have := h t ht
    unfold vg at this
    rw [List.getD_eq_getElem?_getD, List.getElem?_eq_getElem ht] at this
    exact decide_eq_true this
  rw [this, decide_eq_false hk, decide_eq_true ht]; simp
theorem fitsD_zero {k tk tf : Int} {l : List VD} (h : k = 0 ∨ tk = 0) : fitsD k l tk tf = true := by unfold fitsD; rw [decide_eq_true h]; rfl
theorem fitsD_ne {k tk tf : Int} {l : List VD} (h : ¬ (k = 0 ∨ tk = 0)) (hn : k ≠ tk) : fitsD k l tk tf = false := by unfold fitsD; rw [decide_eq_false h, decide_eq_false hn]; rfl
theorem fitsD_of0 {k tk : Int} {l : List VD} (ht : k = tk) : fitsD k l tk 0 = true := by unfold fitsD; rw [decide_eq_true ht]; simp
set_option maxRecDepth 100000 in
set_option maxHeartbeats 2000000 in
theorem vfits_any (s : VS) (l : List VD) (A : Option Addr) (C : Nat) (N : Value) (tk tf : Int) (w : World) (h : Vls (RV w) w (.slice A l.length C) l) (ht : tk = 5 ∨ tf = 0) :
    Calls Tryd.prog 21 #[vagg s (.slice A l.length C) N, .agg #[.int .i64 tk, .int .i64 tf]] w fun e w' => e = .returned (.bool (fitsD s.kind l tk tf)) ∧ Below w.heap.size w w' := by
  obtain ⟨_, _, _, hll⟩ := h.is
  have HV := Lib.hid h
  obtain ⟨kind, yes, neg, coef, sc, text, day⟩ := s
  unfold vagg
  dsimp only
  obtain ⟨z, hz⟩ : ∃ z, z = fitsD kind l tk tf := ⟨_, rfl⟩
  rw [← hz]
  have HZ := Lib.hid hz
  have hll2 : (l.length : Int) ≤ 1048576 := by omega
  clear h hll hz
  by_cases k0 : kind = 0
  · obtain rfl : z = true := by rw [HZ.out]; exact fitsD_zero (.inl k0)
    subst k0
    clear HZ
    go_enter Tryd.func21, Tryd.ntmps21
    go_wp2_with fail
    all_goals (go_ret; exact ⟨rfl, by (repeat' (first | (with_reducible exact Below.refl _ _) | (with_reducible assumption) | (with_reducible refine Below.drew ?_) | (with_reducible refine below_drewN ?_ _) | ((with_reducible refine Below.alloc ?_ ?_ _); rotate_left; focus (go_size; done)) | ((with_reducible refine Below.setCell ?_ ?_ _); rotate_left; focus (go_size; done)) | ((with_reducible refine Below.trans ?_ (Below.mono (by with_reducible assumption) ?_)); rotate_left; focus (go_size; done))))⟩)
  · have e0 : (kind == 0) = false := by rw [beq_eq_false_iff_ne]; exact k0
    by_cases t0 : tk = 0
    · obtain rfl : z = true := by rw [HZ.out]; exact fitsD_zero (.inr t0)
      subst t0
      clear HZ ht
      go_enter Tryd.func21, Tryd.ntmps21
      go_wp2_with fail
      go_ret
      exact ⟨rfl, by (repeat' (first | (with_reducible exact Below.refl _ _) | (with_reducible assumption) | (with_reducible refine Below.drew ?_) | (with_reducible refine below_drewN ?_ _) | ((with_reducible refine Below.alloc ?_ ?_ _); rotate_left; focus (go_size; done)) | ((with_reducible refine Below.setCell ?_ ?_ _); rotate_left; focus (go_size; done)) | ((with_reducible refine Below.trans ?_ (Below.mono (by with_reducible assumption) ?_)); rotate_left; focus (go_size; done))))⟩
    · have g0 : (tk == 0) = false := by rw [beq_eq_false_iff_ne]; exact t0
      by_cases kt : kind = tk
      · have g1 : (kind != tk) = false := by rw [bne_eq_false_iff_eq]; exact kt
        by_cases to0 : tf = 0
        · obtain rfl : z = true := by rw [HZ.out, to0]; exact fitsD_of0 kt
          subst to0
          clear HZ ht
          by_cases t5 : tk = 5
          · subst t5
            clear kt t0
            go_enter Tryd.func21, Tryd.ntmps21
            go_wp2_with fail
            go_ret
            exact ⟨rfl, by (repeat' (first | (with_reducible exact Below.refl _ _) | (with_reducible assumption) | (with_reducible refine Below.drew ?_) | (with_reducible refine below_drewN ?_ _) | ((with_reducible refine Below.alloc ?_ ?_ _); rotate_left; focus (go_size; done)) | ((with_reducible refine Below.setCell ?_ ?_ _); rotate_left; focus (go_size; done)) | ((with_reducible refine Below.trans ?_ (Below.mono (by with_reducible assumption) ?_)); rotate_left; focus (go_size; done))))⟩
          · have g5 : (tk == 5) = false := by rw [beq_eq_false_iff_ne]; exact t5
            clear kt t0 t5
            go_enter Tryd.func21, Tryd.ntmps21
            go_wp2_with fail
            go_ret
            exact ⟨rfl, by (repeat' (first | (with_reducible exact Below.refl _ _) | (with_reducible assumption) | (with_reducible refine Below.drew ?_) | (with_reducible refine below_drewN ?_ _) | ((with_reducible refine Below.alloc ?_ ?_ _); rotate_left; focus (go_size; done)) | ((with_reducible refine Below.setCell ?_ ?_ _); rotate_left; focus (go_size; done)) | ((with_reducible refine Below.trans ?_ (Below.mono (by with_reducible assumption) ?_)); rotate_left; focus (go_size; done))))⟩
        · obtain rfl : tk = 5 := by rcases ht with h | h; exact h; exact absurd h to0
          have h0 : (tf != 0) = true := by rw [bne_iff_ne]; exact to0
          subst kt
          have HK0 : Hid (¬ ((5 : Int) = 0 ∨ (5 : Int) = 0)) := Lib.hid (by omega)
          have HT0 := Lib.hid to0
          clear ht k0 t0 to0
          go_enter Tryd.func21, Tryd.ntmps21
          go_wp2_with fail
          go_loopg [31] l.length (fun k s31 wr => ∃ t : Nat, k + t = l.length ∧ s31 = .int .i64 t ∧ Hid (∀ i, i < t → (vg l i).s.kind = 0 ∨ (vg l i).s.kind = tf) ∧ wr.cell? ⟨w.heap.size + 1, 1, none⟩ = some (.int .i64 tf) ∧ w.heap.size + 1 < wr.heap.size ∧ Below w.heap.size w wr)
          case atStart => exact ⟨0, by omega, rfl, Lib.hid (fun i hi => absurd hi (Nat.not_lt_zero _)), by go_simp, by go_size, by (repeat' (first | (with_reducible exact Below.refl _ _) | (with_reducible assumption) | (with_reducible refine Below.drew ?_) | (with_reducible refine below_drewN ?_ _) | ((with_reducible refine Below.alloc ?_ ?_ _); rotate_left; focus (go_size; done)) | ((with_reducible refine Below.setCell ?_ ?_ _); rotate_left; focus (go_size; done)) | ((with_reducible refine Below.trans ?_ (Below.mono (by with_reducible assumption) ?_)); rotate_left; focus (go_size; done))))⟩
          case round =>
            obtain ⟨t, hk, rfl, HA, c1, hsz, hbel⟩ := hrel
            have HK := Lib.hid hk
            have htl : t ≤ l.length := by omega
            clear hk
            by_cases hlt : t < l.length
            · obtain ⟨b, o, E1, D1, E2, D2, rfl, hat, hx⟩ := (HV.out.kept hbel).at hlt
              obtain ⟨a0, a1, a2, a3, a4, a5, a6, a7, a8, a9⟩ := hat.val
              have lb := vcell_lt a0
              have HS := Lib.hid (fun (p1 : (vg l t).s.kind ≠ 0) p2 => fitsD_stop (k := 5) (tk := 5) hlt HK0.out HT0.out p1 p2)
              obtain ⟨x, hxx⟩ : ∃ x, x = vg l t := ⟨_, rfl⟩
              rw [← hxx] at a0 a1 a2 a3 a4 a5 a6 a7 a8 a9 HS
              obtain ⟨k, hkk⟩ : ∃ k, k = x.s.kind := ⟨_, rfl⟩
              rw [← hkk] at a0 HS
              have HKK : Hid (k = (vg l t).s.kind) := Lib.hid (by rw [hkk, hxx])
              clear hat hx hxx hkk
              by_cases k0 : k = 0
              · subst k0
                go_wp2_with fail
                go_roundg (gk - 1)
                case measure => have := HK.out; omega
                case rel => exact ⟨t + 1, by have := HK.out; omega, by go_num, Lib.hid (fun i hi => by
                  by_cases e : i = t
                  · subst e; exact .inl HKK.out.symm
                  · exact HA.out i (by omega)), by go_simp, by go_size, by (repeat' (first | (with_reducible exact Below.refl _ _) | (with_reducible assumption) | (with_reducible refine Below.drew ?_) | (with_reducible refine below_drewN ?_ _) | ((with_reducible refine Below.alloc ?_ ?_ _); rotate_left; focus (go_size; done)) | ((with_reducible refine Below.setCell ?_ ?_ _); rotate_left; focus (go_size; done)) | ((with_reducible refine Below.trans ?_ (Below.mono (by with_reducible assumption) ?_)); rotate_left; focus (go_size; done))))⟩
              · have q0 : (k != 0) = true := by rw [bne_iff_ne]; exact k0
                by_cases kf : k = tf
                · have q1 : (k != tf) = false := by rw [bne_eq_false_iff_eq]; exact kf
                  have HKF := Lib.hid kf
                  clear kf k0
                  go_wp2_with fail
                  go_roundg (gk - 1)
                  case measure => have := HK.out; omega
                  case rel => exact ⟨t + 1, by have := HK.out; omega, by go_num, Lib.hid (fun i hi => by
                    by_cases e : i = t
                    · subst e; exact .inr (HKK.out.symm.trans HKF.out)
                    · exact HA.out i (by omega)), by go_simp, by go_size, by (repeat' (first | (with_reducible exact Below.refl _ _) | (with_reducible assumption) | (with_reducible refine Below.drew ?_) | (with_reducible refine below_drewN ?_ _) | ((with_reducible refine Below.alloc ?_ ?_ _); rotate_left; focus (go_size; done)) | ((with_reducible refine Below.setCell ?_ ?_ _); rotate_left; focus (go_size; done)) | ((with_reducible refine Below.trans ?_ (Below.mono (by with_reducible assumption) ?_)); rotate_left; focus (go_size; done))))⟩
                · have q1 : (k != tf) = true := by rw [bne_iff_ne]; exact kf
                  obtain rfl : z = false := by rw [HZ.out]; exact HS.out k0 kf
                  clear HZ HS
                  go_wp2_with fail
                  go_ret
                  exact ⟨rfl, by (repeat' (first | (with_reducible exact Below.refl _ _) | (with_reducible assumption) | (with_reducible refine Below.drew ?_) | (with_reducible refine below_drewN ?_ _) | ((with_reducible refine Below.alloc ?_ ?_ _); rotate_left; focus (go_size; done)) | ((with_reducible refine Below.setCell ?_ ?_ _); rotate_left; focus (go_size; done)) | ((with_reducible refine Below.trans ?_ (Below.mono (by with_reducible assumption) ?_)); rotate_left; focus (go_size; done))))⟩
            · obtain rfl : t = l.length := by omega
              obtain rfl : z = true := by rw [HZ.out]; exact fitsD_all HK0.out rfl HA.out
              clear HZ hlt
              go_wp2_with fail
              go_ret
              exact ⟨rfl, by (repeat' (first | (with_reducible exact Below.refl _ _) | (with_reducible assumption) | (with_reducible refine Below.drew ?_) | (with_reducible refine below_drewN ?_ _) | ((with_reducible refine Below.alloc ?_ ?_ _); rotate_left; focus (go_size; done)) | ((with_reducible refine Below.setCell ?_ ?_ _); rotate_left; focus (go_size; done)) | ((with_reducible refine Below.trans ?_ (Below.mono (by with_reducible assumption) ?_)); rotate_left; focus (go_size; done))))⟩
      · have g1 : (kind != tk) = true := by rw [bne_iff_ne]; exact kt
        obtain rfl : z = false := by rw [HZ.out]; exact fitsD_ne (by rintro (h | h); exact k0 h; exact t0 h) kt
        clear HZ kt ht
        go_enter Tryd.func21, Tryd.ntmps21
        go_wp2_with fail
        go_ret
        exact ⟨rfl, by (repeat' (first | (with_reducible exact Below.refl _ _) | (with_reducible assumption) | (with_reducible refine Below.drew ?_) | (with_reducible refine below_drewN ?_ _) | ((with_reducible refine Below.alloc ?_ ?_ _); rotate_left; focus (go_size; done)) | ((with_reducible refine Below.setCell ?_ ?_ _); rotate_left; focus (go_size; done)) | ((with_reducible refine Below.trans ?_ (Below.mono (by with_reducible assumption) ?_)); rotate_left; focus (go_size; done))))⟩
end Go.Proofs.YtanjbdhjnmmfdaaDoor

set_option linter.unusedSimpArgs false
set_option linter.unusedVariables false
namespace Go.Proofs.YtanjbdhjnmmfdaaDoor
open Go.RowKit

set_option maxRecDepth 100000 in
set_option maxHeartbeats 2000000 in
theorem rfits_any (s : VS) (l : List VD) (A : Option Addr) (C : Nat) (N : Value) (tk tf : Int) (w : World) (h : Vls (RV w) w (.slice A l.length C) l) :
    Calls Tryd.prog 19 #[vagg s (.slice A l.length C) N, .agg #[.int .i64 tk, .int .i64 tf]] w fun e w' => e = .returned (.bool (fitsD s.kind l tk tf)) ∧ Below w.heap.size w w' := by
  obtain ⟨_, _, _, hll⟩ := h.is
  have HV := Lib.hid h
  obtain ⟨kind, yes, neg, coef, sc, text, day⟩ := s
  unfold vagg
  dsimp only
  obtain ⟨z, hz⟩ : ∃ z, z = fitsD kind l tk tf := ⟨_, rfl⟩
  rw [← hz]
  have HZ := Lib.hid hz
  have hll2 : (l.length : Int) ≤ 1048576 := by omega
  clear h hll hz
  by_cases k0 : kind = 0
  · obtain rfl : z = true := by rw [HZ.out]; exact fitsD_zero (.inl k0)
    subst k0
    clear HZ
    go_enter Tryd.func19, Tryd.ntmps19
    go_wp2_with fail
    all_goals (go_ret; exact ⟨rfl, by (repeat' (first | (with_reducible exact Below.refl _ _) | (with_reducible assumption) | (with_reducible refine Below.drew ?_) | (with_reducible refine below_drewN ?_ _) | ((with_reducible refine Below.alloc ?_ ?_ _); rotate_left; focus (go_size; done)) | ((with_reducible refine Below.setCell ?_ ?_ _); rotate_left; focus (go_size; done)) | ((with_reducible refine Below.trans ?_ (Below.mono (by with_reducible assumption) ?_)); rotate_left; focus (go_size; done))))⟩)
  · have e0 : (kind == 0) = false := by rw [beq_eq_false_iff_ne]; exact k0
    by_cases t0 : tk = 0
    · obtain rfl : z = true := by rw [HZ.out]; exact fitsD_zero (.inr t0)
      subst t0
      clear HZ
      go_enter Tryd.func19, Tryd.ntmps19
      go_wp2_with fail
      go_ret
      exact ⟨rfl, by (repeat' (first | (with_reducible exact Below.refl _ _) | (with_reducible assumption) | (with_reducible refine Below.drew ?_) | (with_reducible refine below_drewN ?_ _) | ((with_reducible refine Below.alloc ?_ ?_ _); rotate_left; focus (go_size; done)) | ((with_reducible refine Below.setCell ?_ ?_ _); rotate_left; focus (go_size; done)) | ((with_reducible refine Below.trans ?_ (Below.mono (by with_reducible assumption) ?_)); rotate_left; focus (go_size; done))))⟩
    · have g0 : (tk == 0) = false := by rw [beq_eq_false_iff_ne]; exact t0
      by_cases kt : kind = tk
      · have g1 : (kind != tk) = false := by rw [bne_eq_false_iff_eq]; exact kt
        have HK0 : Hid (¬ (kind = 0 ∨ tk = 0)) := Lib.hid (by rintro (h | h); exact k0 h; exact t0 h)
        have HKT := Lib.hid kt
        clear kt k0 t0
        go_enter Tryd.func19, Tryd.ntmps19
        go_wp2_with fail
        go_loopg [5] l.length (fun k s5 wr => ∃ t : Nat, k + t = l.length ∧ s5 = .int .i64 t ∧ Hid (∀ i, i < t → (vg l i).s.kind = 0 ∨ (vg l i).s.kind = tf) ∧ wr.cell? ⟨w.heap.size + 1, 1, none⟩ = some (.int .i64 tf) ∧ wr.cell? ⟨w.heap.size, 8, none⟩ = some (.slice A l.length C) ∧ w.heap.size + 1 < wr.heap.size ∧ Below w.heap.size w wr)
        case atStart => exact ⟨0, by omega, rfl, Lib.hid (fun i hi => absurd hi (Nat.not_lt_zero _)), by go_simp, by go_simp, by go_size, by (repeat' (first | (with_reducible exact Below.refl _ _) | (with_reducible assumption) | (with_reducible refine Below.drew ?_) | (with_reducible refine below_drewN ?_ _) | ((with_reducible refine Below.alloc ?_ ?_ _); rotate_left; focus (go_size; done)) | ((with_reducible refine Below.setCell ?_ ?_ _); rotate_left; focus (go_size; done)) | ((with_reducible refine Below.trans ?_ (Below.mono (by with_reducible assumption) ?_)); rotate_left; focus (go_size; done))))⟩
        case round =>
          obtain ⟨t, hk, rfl, HA, c1, c8, hsz, hbel⟩ := hrel
          have HK := Lib.hid hk
          have htl : t ≤ l.length := by omega
          clear hk
          by_cases to0 : tf = 0
          · obtain rfl : z = true := by rw [HZ.out, to0]; exact fitsD_of0 HKT.out
            subst to0
            clear HZ
            go_wp2_with fail
            go_ret
            exact ⟨rfl, by (repeat' (first | (with_reducible exact Below.refl _ _) | (with_reducible assumption) | (with_reducible refine Below.drew ?_) | (with_reducible refine below_drewN ?_ _) | ((with_reducible refine Below.alloc ?_ ?_ _); rotate_left; focus (go_size; done)) | ((with_reducible refine Below.setCell ?_ ?_ _); rotate_left; focus (go_size; done)) | ((with_reducible refine Below.trans ?_ (Below.mono (by with_reducible assumption) ?_)); rotate_left; focus (go_size; done))))⟩
          · have h0 : (tf != 0) = true := by rw [bne_iff_ne]; exact to0
            by_cases hlt : t < l.length
            · obtain ⟨b, o, E1, D1, E2, D2, rfl, hat, hx⟩ := (HV.out.kept hbel).at hlt
              obtain ⟨a0, a1, a2, a3, a4, a5, a6, a7, a8, a9⟩ := hat.val
              have lb := vcell_lt a0
              have HS := Lib.hid (fun (p1 : (vg l t).s.kind ≠ 0) p2 => fitsD_stop hlt HK0.out to0 p1 p2)
              obtain ⟨x, hxx⟩ : ∃ x, x = vg l t := ⟨_, rfl⟩
              rw [← hxx] at a0 HS
              obtain ⟨k, hkk⟩ : ∃ k, k = x.s.kind := ⟨_, rfl⟩
              rw [← hkk] at a0 HS
              have HKK : Hid (k = (vg l t).s.kind) := Lib.hid (by rw [hkk, hxx])
              have hti : (t : Int) < (l.length : Int) := by omega
              clear hat hx hxx hkk a1 a2 a3 a4 a5 a6 a7 a8 a9
              by_cases k0 : k = 0
              · subst k0
                go_wp2_with fail
                go_quiet (fail)
                go_wp2_with fail
                go_roundg (gk - 1)
                case measure => have := HK.out; omega
                case rel => exact ⟨t + 1, by have := HK.out; omega, by go_num, Lib.hid (fun i hi => by
                  by_cases e : i = t
                  · subst e; exact .inl HKK.out.symm
                  · exact HA.out i (by omega)), c1, c8, hsz, by (repeat' (first | (with_reducible exact Below.refl _ _) | (with_reducible assumption) | (with_reducible refine Below.drew ?_) | (with_reducible refine below_drewN ?_ _) | ((with_reducible refine Below.alloc ?_ ?_ _); rotate_left; focus (go_size; done)) | ((with_reducible refine Below.setCell ?_ ?_ _); rotate_left; focus (go_size; done)) | ((with_reducible refine Below.trans ?_ (Below.mono (by with_reducible assumption) ?_)); rotate_left; focus (go_size; done))))⟩
              · have q0 : (k != 0) = true := by rw [bne_iff_ne]; exact k0
                by_cases kf : k = tf
                · have q1 : (k != tf) = false := by rw [bne_eq_false_iff_eq]; exact kf
                  have HKF := Lib.hid kf
                  clear kf k0
                  go_wp2_with fail
                  go_quiet (fail)
                  go_wp2_with fail
                  go_roundg (gk - 1)
                  case measure => have := HK.out; omega
                  case rel => exact ⟨t + 1, by have := HK.out; omega, by go_num, Lib.hid (fun i hi => by
                    by_cases e : i = t
                    · subst e; exact .inr (HKK.out.symm.trans HKF.out)
                    · exact HA.out i (by omega)), c1, c8, hsz, by (repeat' (first | (with_reducible exact Below.refl _ _) | (with_reducible assumption) | (with_reducible refine Below.drew ?_) | (with_reducible refine below_drewN ?_ _) | ((with_reducible refine Below.alloc ?_ ?_ _); rotate_left; focus (go_size; done)) | ((with_reducible refine Below.setCell ?_ ?_ _); rotate_left; focus (go_size; done)) | ((with_reducible refine Below.trans ?_ (Below.mono (by with_reducible assumption) ?_)); rotate_left; focus (go_size; done))))⟩
                · have q1 : (k != tf) = true := by rw [bne_iff_ne]; exact kf
                  obtain rfl : z = false := by rw [HZ.out]; exact HS.out k0 kf
                  clear HZ HS
                  go_wp2_with fail
                  go_quiet (fail)
                  go_wp2_with fail
                  go_ret
                  exact ⟨rfl, by (repeat' (first | (with_reducible exact Below.refl _ _) | (with_reducible assumption) | (with_reducible refine Below.drew ?_) | (with_reducible refine below_drewN ?_ _) | ((with_reducible refine Below.alloc ?_ ?_ _); rotate_left; focus (go_size; done)) | ((with_reducible refine Below.setCell ?_ ?_ _); rotate_left; focus (go_size; done)) | ((with_reducible refine Below.trans ?_ (Below.mono (by with_reducible assumption) ?_)); rotate_left; focus (go_size; done))))⟩
            · obtain rfl : t = l.length := by omega
              obtain rfl : z = true := by rw [HZ.out]; exact fitsD_all HK0.out HKT.out HA.out
              clear HZ hlt
              go_wp2_with fail
              go_ret
              exact ⟨rfl, by (repeat' (first | (with_reducible exact Below.refl _ _) | (with_reducible assumption) | (with_reducible refine Below.drew ?_) | (with_reducible refine below_drewN ?_ _) | ((with_reducible refine Below.alloc ?_ ?_ _); rotate_left; focus (go_size; done)) | ((with_reducible refine Below.setCell ?_ ?_ _); rotate_left; focus (go_size; done)) | ((with_reducible refine Below.trans ?_ (Below.mono (by with_reducible assumption) ?_)); rotate_left; focus (go_size; done))))⟩
      · have g1 : (kind != tk) = true := by rw [bne_iff_ne]; exact kt
        obtain rfl : z = false := by rw [HZ.out]; exact fitsD_ne (by rintro (h | h); exact k0 h; exact t0 h) kt
        clear HZ kt
        go_enter Tryd.func19, Tryd.ntmps19
        go_wp2_with fail
        go_ret
        exact ⟨rfl, by (repeat' (first | (with_reducible exact Below.refl _ _) | (with_reducible assumption) | (with_reducible refine Below.drew ?_) | (with_reducible refine below_drewN ?_ _) | ((with_reducible refine Below.alloc ?_ ?_ _); rotate_left; focus (go_size; done)) | ((with_reducible refine Below.setCell ?_ ?_ _); rotate_left; focus (go_size; done)) | ((with_reducible refine Below.trans ?_ (Below.mono (by with_reducible assumption) ?_)); rotate_left; focus (go_size; done))))⟩
end Go.Proofs.YtanjbdhjnmmfdaaDoor

set_option linter.unusedSimpArgs false
set_option linter.unusedVariables false
namespace Go.Proofs.YtanjbdhjnmmfdaaDoor
open Go.RowKit

/-- what Of answers -/
def ofC (d : VD) : (Int × Int) × Int := if chkV d = 0 then (ofV d.s.kind d.list, 0) else ((0, 0), chkV d)
/-- what Fits answers -/
def fitsC (d : VD) (tk tf : Int) : Bool × Int := if chkV d ≠ 0 then (false, chkV d) else if formB tk tf = true then (fitsD d.s.kind d.list tk tf, 0) else (false, 2)
theorem chk_cases (d : VD) : chkV d = 0 ∨ chkV d = 2 ∨ chkV d = 6 ∨ chkV d = 7 := by
  unfold chkV
  repeat' split
  all_goals simp
/-- what is in form has items where it is a list or a context alone -/
theorem chk_bare {d : VD} (h : chkV d = 0) : d.s.kind = 5 ∨ d.s.kind = 6 ∨ d.list = [] := by
  have hok : okV d = true := by
    unfold chkV at h
    split at h
    · cases h
    · split at h
      · cases h
      · split at h
        · assumption
        · cases h
  rw [okV_eq, Bool.and_eq_true] at hok
  have hb := hok.1
  unfold ownB at hb
  rw [Bool.and_eq_true] at hb
  rcases (bareQ_iff.1 hb.1).2.2.2.2.1 with (h | h) | h
  · exact .inl h
  · exact .inr (.inl h)
  · exact .inr (.inr (List.length_eq_zero_iff.1 h))
set_option maxRecDepth 100000 in
set_option maxHeartbeats 1000000 in
theorem rdocof_any (d : VD) (A : Option Addr) (C : Nat) (A2 : Option Addr) (C2 : Nat) (w : World) (h : VA w d A C A2 C2) (hsz : d.size ≤ 1048576) :
    Calls Tryd.prog 6 #[vargs d A C A2 C2] w fun e w' => e = .returned (.tuple #[.agg #[.int .i64 (ofC d).1.1, .int .i64 (ofC d).1.2], .int .i64 (ofC d).2]) ∧ Below w.heap.size w w' := by
  have hc := fun (W : World) (hW : Below w.heap.size w W) => rcheck_any d A C A2 C2 W (h.below hW) hsz
  have hcc := chk_cases d
  have ho := fun (h0 : chkV d = 0) (W : World) (hW : Below w.heap.size w W) => rof_any d.s d.list A C (.slice A2 d.names.length C2) W ((RV.below h hW).list.2.1) (chk_bare h0)
  have hof : ofC d = if chkV d = 0 then (ofV d.s.kind d.list, 0) else ((0, 0), chkV d) := rfl
  obtain ⟨O, hO⟩ : ∃ O, O = ofC d := ⟨_, rfl⟩
  rw [← hO] at hof ⊢
  obtain ⟨V, hV⟩ : ∃ V, V = ofV d.s.kind d.list := ⟨_, rfl⟩
  rw [← hV] at hof
  simp only [← hV] at ho
  obtain ⟨e, he⟩ : ∃ e, e = chkV d := ⟨_, rfl⟩
  rw [← he] at hof hcc
  simp only [← he] at hc ho
  obtain ⟨s, l, nm⟩ := d
  obtain ⟨kind, yes, neg, coef, sc, text, day⟩ := s
  unfold vargs vagg
  unfold vargs vagg at hc
  unfold vagg at ho
  dsimp only [VD.s, VD.list, VD.names] at hc ho ⊢
  have H1 := Lib.hid hc
  have H2 := Lib.hid ho
  clear hc ho h hsz hO hV he
  by_cases h0 : e = 0
  · subst h0
    rw [if_pos rfl] at hof
    subst hof
    have H3 := Lib.hid (H2.out rfl)
    clear H2 hcc
    obtain ⟨v1, v2⟩ := V
    dsimp only at H3 ⊢
    go_enter Tryd.func6, Tryd.ntmps6
    go_wp2_with (first | ((go_at_call 11; with_reducible refine (H1.out _ (by (repeat' (first | (with_reducible exact Below.refl _ _) | (with_reducible assumption) | (with_reducible refine Below.drew ?_) | (with_reducible refine below_drewN ?_ _) | ((with_reducible refine Below.alloc ?_ ?_ _); rotate_left; focus (go_size; done)) | ((with_reducible refine Below.setCell ?_ ?_ _); rotate_left; focus (go_size; done)) | ((with_reducible refine Below.trans ?_ (Below.mono (by with_reducible assumption) ?_)); rotate_left; focus (go_size; done)))))).mono ?_); rintro _ w1 ⟨rfl, hb1⟩; have hb1s := hb1.size; (try simp only [World.size_alloc, World.size_setCell, World.size_drew, World.heap_drewN] at hb1s); obtain ⟨hb1c, hb1f⟩ := bcell hb1; (try have : w.heap.size < w1.heap.size := by omega); (try have : w.heap.size + 1 < w1.heap.size := by omega); (try have : w.heap.size + 1 + 1 < w1.heap.size := by omega); (try have : w.heap.size + 1 + 1 + 1 < w1.heap.size := by omega)) | ((go_at_call 16; with_reducible refine (H3.out _ (by (repeat' (first | (with_reducible exact Below.refl _ _) | (with_reducible assumption) | (with_reducible refine Below.drew ?_) | (with_reducible refine below_drewN ?_ _) | ((with_reducible refine Below.alloc ?_ ?_ _); rotate_left; focus (go_size; done)) | ((with_reducible refine Below.setCell ?_ ?_ _); rotate_left; focus (go_size; done)) | ((with_reducible refine Below.trans ?_ (Below.mono (by with_reducible assumption) ?_)); rotate_left; focus (go_size; done)))))).mono ?_); rintro _ w2 ⟨rfl, hb2⟩; have hb2s := hb2.size; (try simp only [World.size_alloc, World.size_setCell, World.size_drew, World.heap_drewN] at hb2s); obtain ⟨hb2c, hb2f⟩ := bcell hb2; (try have : w.heap.size < w2.heap.size := by omega); (try have : w.heap.size + 1 < w2.heap.size := by omega); (try have : w.heap.size + 1 + 1 < w2.heap.size := by omega); (try have : w.heap.size + 1 + 1 + 1 < w2.heap.size := by omega); (try have : w1.heap.size < w2.heap.size := by omega); (try have : w1.heap.size + 1 < w2.heap.size := by omega); (try have : w1.heap.size + 1 + 1 < w2.heap.size := by omega); (try have : w1.heap.size + 1 + 1 + 1 < w2.heap.size := by omega)))
    refine bodyPost_ret (by simp [results, Tryd.results6, go_sem, *]; try rfl) rfl ?_
    exact ⟨rfl, by (repeat' (first | (with_reducible exact Below.refl _ _) | (with_reducible assumption) | (with_reducible refine Below.drew ?_) | (with_reducible refine below_drewN ?_ _) | ((with_reducible refine Below.alloc ?_ ?_ _); rotate_left; focus (go_size; done)) | ((with_reducible refine Below.setCell ?_ ?_ _); rotate_left; focus (go_size; done)) | ((with_reducible refine Below.trans ?_ (Below.mono (by with_reducible assumption) ?_)); rotate_left; focus (go_size; done))))⟩
  · rw [if_neg h0] at hof
    subst hof
    have e0 : (e != 0) = true := by rw [bne_iff_ne]; exact h0
    clear H2 hcc h0
    go_enter Tryd.func6, Tryd.ntmps6
    go_wp2_with ((go_at_call 11; with_reducible refine (H1.out _ (by (repeat' (first | (with_reducible exact Below.refl _ _) | (with_reducible assumption) | (with_reducible refine Below.drew ?_) | (with_reducible refine below_drewN ?_ _) | ((with_reducible refine Below.alloc ?_ ?_ _); rotate_left; focus (go_size; done)) | ((with_reducible refine Below.setCell ?_ ?_ _); rotate_left; focus (go_size; done)) | ((with_reducible refine Below.trans ?_ (Below.mono (by with_reducible assumption) ?_)); rotate_left; focus (go_size; done)))))).mono ?_); rintro _ w1 ⟨rfl, hb1⟩; have hb1s := hb1.size; (try simp only [World.size_alloc, World.size_setCell, World.size_drew, World.heap_drewN] at hb1s); obtain ⟨hb1c, hb1f⟩ := bcell hb1; (try have : w.heap.size < w1.heap.size := by omega); (try have : w.heap.size + 1 < w1.heap.size := by omega); (try have : w.heap.size + 1 + 1 < w1.heap.size := by omega); (try have : w.heap.size + 1 + 1 + 1 < w1.heap.size := by omega))
    refine bodyPost_ret (by simp [results, Tryd.results6, go_sem, *]; try rfl) rfl ?_
    exact ⟨rfl, by (repeat' (first | (with_reducible exact Below.refl _ _) | (with_reducible assumption) | (with_reducible refine Below.drew ?_) | (with_reducible refine below_drewN ?_ _) | ((with_reducible refine Below.alloc ?_ ?_ _); rotate_left; focus (go_size; done)) | ((with_reducible refine Below.setCell ?_ ?_ _); rotate_left; focus (go_size; done)) | ((with_reducible refine Below.trans ?_ (Below.mono (by with_reducible assumption) ?_)); rotate_left; focus (go_size; done))))⟩
end Go.Proofs.YtanjbdhjnmmfdaaDoor

set_option linter.unusedSimpArgs false
set_option linter.unusedVariables false
namespace Go.Proofs.YtanjbdhjnmmfdaaDoor
open Go.RowKit

theorem form_of_cases {tk tf : Int} (h : formB tk tf = true) : tk = 5 ∨ tf = 0 := by
  unfold formB at h
  split at h
  · exact .inl ‹_›
  · exact .inr (of_decide_eq_true h).2.2
set_option maxRecDepth 100000 in
set_option maxHeartbeats 1000000 in
theorem rdocfits_any (d : VD) (A : Option Addr) (C : Nat) (A2 : Option Addr) (C2 : Nat) (tk tf : Int) (w : World) (h : VA w d A C A2 C2) (hsz : d.size ≤ 1048576) :
    Calls Tryd.prog 8 #[vargs d A C A2 C2, .agg #[.int .i64 tk, .int .i64 tf]] w fun e w' => e = .returned (.tuple #[.bool (fitsC d tk tf).1, .int .i64 (fitsC d tk tf).2]) ∧ Below w.heap.size w w' := by
  have hc := fun (W : World) (hW : Below w.heap.size w W) => rcheck_any d A C A2 C2 W (h.below hW) hsz
  have ho := fun (W : World) (hW : Below w.heap.size w W) => rfits_any d.s d.list A C (.slice A2 d.names.length C2) tk tf W ((RV.below h hW).list.2.1)
  have hf := fun (W : World) => krform_any tk tf W
  have hof : fitsC d tk tf = if chkV d ≠ 0 then (false, chkV d) else if formB tk tf = true then (fitsD d.s.kind d.list tk tf, 0) else (false, 2) := rfl
  obtain ⟨O, hO⟩ : ∃ O, O = fitsC d tk tf := ⟨_, rfl⟩
  rw [← hO] at hof ⊢
  obtain ⟨V, hV⟩ : ∃ V, V = fitsD d.s.kind d.list tk tf := ⟨_, rfl⟩
  rw [← hV] at hof
  simp only [← hV] at ho
  obtain ⟨e, he⟩ : ∃ e, e = chkV d := ⟨_, rfl⟩
  rw [← he] at hof
  simp only [← he] at hc
  obtain ⟨F, hF⟩ : ∃ F, F = formB tk tf := ⟨_, rfl⟩
  rw [← hF] at hof
  simp only [← hF] at hf
  obtain ⟨s, l, nm⟩ := d
  obtain ⟨kind, yes, neg, coef, sc, text, day⟩ := s
  unfold vargs vagg
  unfold vargs vagg at hc
  unfold vagg at ho
  dsimp only [VD.s, VD.list, VD.names] at hc ho ⊢
  have H1 := Lib.hid hc
  have H2 := Lib.hid ho
  have H3 := Lib.hid hf
  clear hc ho hf h hsz hO hV he hF
  by_cases h0 : e = 0
  · subst h0
    rw [if_neg (by simp)] at hof
    cases F with
    | true =>
      rw [if_pos rfl] at hof
      subst hof
      go_enter Tryd.func8, Tryd.ntmps8
      go_wp2_with (first | ((go_at_call 11; with_reducible refine (H1.out _ (by (repeat' (first | (with_reducible exact Below.refl _ _) | (with_reducible assumption) | (with_reducible refine Below.drew ?_) | (with_reducible refine below_drewN ?_ _) | ((with_reducible refine Below.alloc ?_ ?_ _); rotate_left; focus (go_size; done)) | ((with_reducible refine Below.setCell ?_ ?_ _); rotate_left; focus (go_size; done)) | ((with_reducible refine Below.trans ?_ (Below.mono (by with_reducible assumption) ?_)); rotate_left; focus (go_size; done)))))).mono ?_); rintro _ w1 ⟨rfl, hb1⟩; have hb1s := hb1.size; (try simp only [World.size_alloc, World.size_setCell, World.size_drew, World.heap_drewN] at hb1s); obtain ⟨hb1c, hb1f⟩ := bcell hb1; (try have : w.heap.size < w1.heap.size := by omega); (try have : w.heap.size + 1 < w1.heap.size := by omega); (try have : w.heap.size + 1 + 1 < w1.heap.size := by omega); (try have : w.heap.size + 1 + 1 + 1 < w1.heap.size := by omega)) | ((go_at_call 10; with_reducible refine (H3.out _).mono ?_); rintro _ w2 ⟨rfl, hb2⟩; have hb2s := hb2.size; (try simp only [World.size_alloc, World.size_setCell, World.size_drew, World.heap_drewN] at hb2s); obtain ⟨hb2c, hb2f⟩ := bcell hb2; (try have : w.heap.size < w2.heap.size := by omega); (try have : w.heap.size + 1 < w2.heap.size := by omega); (try have : w.heap.size + 1 + 1 < w2.heap.size := by omega); (try have : w.heap.size + 1 + 1 + 1 < w2.heap.size := by omega); (try have : w1.heap.size < w2.heap.size := by omega); (try have : w1.heap.size + 1 < w2.heap.size := by omega); (try have : w1.heap.size + 1 + 1 < w2.heap.size := by omega); (try have : w1.heap.size + 1 + 1 + 1 < w2.heap.size := by omega)) | ((go_at_call 19; with_reducible refine (H2.out _ (by (repeat' (first | (with_reducible exact Below.refl _ _) | (with_reducible assumption) | (with_reducible refine Below.drew ?_) | (with_reducible refine below_drewN ?_ _) | ((with_reducible refine Below.alloc ?_ ?_ _); rotate_left; focus (go_size; done)) | ((with_reducible refine Below.setCell ?_ ?_ _); rotate_left; focus (go_size; done)) | ((with_reducible refine Below.trans ?_ (Below.mono (by with_reducible assumption) ?_)); rotate_left; focus (go_size; done)))))).mono ?_); rintro _ w3 ⟨rfl, hb3⟩; have hb3s := hb3.size; (try simp only [World.size_alloc, World.size_setCell, World.size_drew, World.heap_drewN] at hb3s); obtain ⟨hb3c, hb3f⟩ := bcell hb3; (try have : w.heap.size < w3.heap.size := by omega); (try have : w.heap.size + 1 < w3.heap.size := by omega); (try have : w.heap.size + 1 + 1 < w3.heap.size := by omega); (try have : w.heap.size + 1 + 1 + 1 < w3.heap.size := by omega); (try have : w1.heap.size < w3.heap.size := by omega); (try have : w1.heap.size + 1 < w3.heap.size := by omega); (try have : w1.heap.size + 1 + 1 < w3.heap.size := by omega); (try have : w1.heap.size + 1 + 1 + 1 < w3.heap.size := by omega); (try have : w2.heap.size < w3.heap.size := by omega); (try have : w2.heap.size + 1 < w3.heap.size := by omega); (try have : w2.heap.size + 1 + 1 < w3.heap.size := by omega); (try have : w2.heap.size + 1 + 1 + 1 < w3.heap.size := by omega)))
      go_ret2
      exact ⟨rfl, by (repeat' (first | (with_reducible exact Below.refl _ _) | (with_reducible assumption) | (with_reducible refine Below.drew ?_) | (with_reducible refine below_drewN ?_ _) | ((with_reducible refine Below.alloc ?_ ?_ _); rotate_left; focus (go_size; done)) | ((with_reducible refine Below.setCell ?_ ?_ _); rotate_left; focus (go_size; done)) | ((with_reducible refine Below.trans ?_ (Below.mono (by with_reducible assumption) ?_)); rotate_left; focus (go_size; done))))⟩
    | false =>
      rw [if_neg (by simp)] at hof
      subst hof
      go_enter Tryd.func8, Tryd.ntmps8
      go_wp2_with (first | ((go_at_call 11; with_reducible refine (H1.out _ (by (repeat' (first | (with_reducible exact Below.refl _ _) | (with_reducible assumption) | (with_reducible refine Below.drew ?_) | (with_reducible refine below_drewN ?_ _) | ((with_reducible refine Below.alloc ?_ ?_ _); rotate_left; focus (go_size; done)) | ((with_reducible refine Below.setCell ?_ ?_ _); rotate_left; focus (go_size; done)) | ((with_reducible refine Below.trans ?_ (Below.mono (by with_reducible assumption) ?_)); rotate_left; focus (go_size; done)))))).mono ?_); rintro _ w1 ⟨rfl, hb1⟩; have hb1s := hb1.size; (try simp only [World.size_alloc, World.size_setCell, World.size_drew, World.heap_drewN] at hb1s); obtain ⟨hb1c, hb1f⟩ := bcell hb1; (try have : w.heap.size < w1.heap.size := by omega); (try have : w.heap.size + 1 < w1.heap.size := by omega); (try have : w.heap.size + 1 + 1 < w1.heap.size := by omega); (try have : w.heap.size + 1 + 1 + 1 < w1.heap.size := by omega)) | ((go_at_call 10; with_reducible refine (H3.out _).mono ?_); rintro _ w2 ⟨rfl, hb2⟩; have hb2s := hb2.size; (try simp only [World.size_alloc, World.size_setCell, World.size_drew, World.heap_drewN] at hb2s); obtain ⟨hb2c, hb2f⟩ := bcell hb2; (try have : w.heap.size < w2.heap.size := by omega); (try have : w.heap.size + 1 < w2.heap.size := by omega); (try have : w.heap.size + 1 + 1 < w2.heap.size := by omega); (try have : w.heap.size + 1 + 1 + 1 < w2.heap.size := by omega); (try have : w1.heap.size < w2.heap.size := by omega); (try have : w1.heap.size + 1 < w2.heap.size := by omega); (try have : w1.heap.size + 1 + 1 < w2.heap.size := by omega); (try have : w1.heap.size + 1 + 1 + 1 < w2.heap.size := by omega)))
      go_ret2
      exact ⟨rfl, by (repeat' (first | (with_reducible exact Below.refl _ _) | (with_reducible assumption) | (with_reducible refine Below.drew ?_) | (with_reducible refine below_drewN ?_ _) | ((with_reducible refine Below.alloc ?_ ?_ _); rotate_left; focus (go_size; done)) | ((with_reducible refine Below.setCell ?_ ?_ _); rotate_left; focus (go_size; done)) | ((with_reducible refine Below.trans ?_ (Below.mono (by with_reducible assumption) ?_)); rotate_left; focus (go_size; done))))⟩
  · rw [if_pos h0] at hof
    subst hof
    have e0 : (e != 0) = true := by rw [bne_iff_ne]; exact h0
    clear H2 h0
    go_enter Tryd.func8, Tryd.ntmps8
    go_wp2_with ((go_at_call 11; with_reducible refine (H1.out _ (by (repeat' (first | (with_reducible exact Below.refl _ _) | (with_reducible assumption) | (with_reducible refine Below.drew ?_) | (with_reducible refine below_drewN ?_ _) | ((with_reducible refine Below.alloc ?_ ?_ _); rotate_left; focus (go_size; done)) | ((with_reducible refine Below.setCell ?_ ?_ _); rotate_left; focus (go_size; done)) | ((with_reducible refine Below.trans ?_ (Below.mono (by with_reducible assumption) ?_)); rotate_left; focus (go_size; done)))))).mono ?_); rintro _ w1 ⟨rfl, hb1⟩; have hb1s := hb1.size; (try simp only [World.size_alloc, World.size_setCell, World.size_drew, World.heap_drewN] at hb1s); obtain ⟨hb1c, hb1f⟩ := bcell hb1; (try have : w.heap.size < w1.heap.size := by omega); (try have : w.heap.size + 1 < w1.heap.size := by omega); (try have : w.heap.size + 1 + 1 < w1.heap.size := by omega); (try have : w.heap.size + 1 + 1 + 1 < w1.heap.size := by omega))
    go_ret2
    exact ⟨rfl, by (repeat' (first | (with_reducible exact Below.refl _ _) | (with_reducible assumption) | (with_reducible refine Below.drew ?_) | (with_reducible refine below_drewN ?_ _) | ((with_reducible refine Below.alloc ?_ ?_ _); rotate_left; focus (go_size; done)) | ((with_reducible refine Below.setCell ?_ ?_ _); rotate_left; focus (go_size; done)) | ((with_reducible refine Below.trans ?_ (Below.mono (by with_reducible assumption) ?_)); rotate_left; focus (go_size; done))))⟩
set_option maxRecDepth 100000 in
set_option maxHeartbeats 1000000 in
theorem pfits_any (d : VD) (A : Option Addr) (C : Nat) (A2 : Option Addr) (C2 : Nat) (tk tf : Int) (w : World) (hT : Tabs w) (h : VA w d A C A2 C2) :
    Calls Tryd.prog 9 #[vargs d A C A2 C2, .agg #[.int .i64 tk, .int .i64 tf]] w fun e w' => e = .returned (.tuple #[.bool (fitsC d tk tf).1, .int .i64 (fitsC d tk tf).2]) ∧ Below w.heap.size w w' := by
  have hc := fun (W : World) (hW : Below w.heap.size w W) => vcheck_any d A C A2 C2 W (tabs_below hT hW) (h.below hW)
  have ho := fun (h1 : formB tk tf = true) (W : World) (hW : Below w.heap.size w W) => vfits_any d.s d.list A C (.slice A2 d.names.length C2) tk tf W ((RV.below h hW).list.2.1) (form_of_cases h1)
  have hf := fun (W : World) => kform_any tk tf W
  have hof : fitsC d tk tf = if chkV d ≠ 0 then (false, chkV d) else if formB tk tf = true then (fitsD d.s.kind d.list tk tf, 0) else (false, 2) := rfl
  obtain ⟨O, hO⟩ : ∃ O, O = fitsC d tk tf := ⟨_, rfl⟩
  rw [← hO] at hof ⊢
  obtain ⟨V, hV⟩ : ∃ V, V = fitsD d.s.kind d.list tk tf := ⟨_, rfl⟩
  rw [← hV] at hof
  simp only [← hV] at ho
  obtain ⟨e, he⟩ : ∃ e, e = chkV d := ⟨_, rfl⟩
  rw [← he] at hof
  simp only [← he] at hc
  obtain ⟨F, hF⟩ : ∃ F, F = formB tk tf := ⟨_, rfl⟩
  rw [← hF] at hof
  simp only [← hF] at hf ho
  obtain ⟨s, l, nm⟩ := d
  obtain ⟨kind, yes, neg, coef, sc, text, day⟩ := s
  unfold vargs vagg
  unfold vargs vagg at hc
  unfold vagg at ho
  dsimp only [VD.s, VD.list, VD.names] at hc ho ⊢
  have H1 := Lib.hid hc
  have H2 := Lib.hid ho
  have H3 := Lib.hid hf
  clear hc ho hf h hO hV he hF hT
  by_cases h0 : e = 0
  · subst h0
    rw [if_neg (by simp)] at hof
    cases F with
    | true =>
      rw [if_pos rfl] at hof
      subst hof
      have H4 := Lib.hid (H2.out rfl)
      clear H2
      go_enter Tryd.func9, Tryd.ntmps9
      go_wp2_with (first | ((go_at_call 17; with_reducible refine (H1.out _ (by (repeat' (first | (with_reducible exact Below.refl _ _) | (with_reducible assumption) | (with_reducible refine Below.drew ?_) | (with_reducible refine below_drewN ?_ _) | ((with_reducible refine Below.alloc ?_ ?_ _); rotate_left; focus (go_size; done)) | ((with_reducible refine Below.setCell ?_ ?_ _); rotate_left; focus (go_size; done)) | ((with_reducible refine Below.trans ?_ (Below.mono (by with_reducible assumption) ?_)); rotate_left; focus (go_size; done)))))).mono ?_); rintro _ w1 ⟨rfl, hb1⟩; have hb1s := hb1.size; (try simp only [World.size_alloc, World.size_setCell, World.size_drew, World.heap_drewN] at hb1s); obtain ⟨hb1c, hb1f⟩ := bcell hb1; (try have : w.heap.size < w1.heap.size := by omega); (try have : w.heap.size + 1 < w1.heap.size := by omega); (try have : w.heap.size + 1 + 1 < w1.heap.size := by omega); (try have : w.heap.size + 1 + 1 + 1 < w1.heap.size := by omega)) | ((go_at_call 20; with_reducible refine (H3.out _).mono ?_); rintro _ w2 ⟨rfl, hb2⟩; have hb2s := hb2.size; (try simp only [World.size_alloc, World.size_setCell, World.size_drew, World.heap_drewN] at hb2s); obtain ⟨hb2c, hb2f⟩ := bcell hb2; (try have : w.heap.size < w2.heap.size := by omega); (try have : w.heap.size + 1 < w2.heap.size := by omega); (try have : w.heap.size + 1 + 1 < w2.heap.size := by omega); (try have : w.heap.size + 1 + 1 + 1 < w2.heap.size := by omega); (try have : w1.heap.size < w2.heap.size := by omega); (try have : w1.heap.size + 1 < w2.heap.size := by omega); (try have : w1.heap.size + 1 + 1 < w2.heap.size := by omega); (try have : w1.heap.size + 1 + 1 + 1 < w2.heap.size := by omega)) | ((go_at_call 21; with_reducible refine (H4.out _ (by (repeat' (first | (with_reducible exact Below.refl _ _) | (with_reducible assumption) | (with_reducible refine Below.drew ?_) | (with_reducible refine below_drewN ?_ _) | ((with_reducible refine Below.alloc ?_ ?_ _); rotate_left; focus (go_size; done)) | ((with_reducible refine Below.setCell ?_ ?_ _); rotate_left; focus (go_size; done)) | ((with_reducible refine Below.trans ?_ (Below.mono (by with_reducible assumption) ?_)); rotate_left; focus (go_size; done)))))).mono ?_); rintro _ w3 ⟨rfl, hb3⟩; have hb3s := hb3.size; (try simp only [World.size_alloc, World.size_setCell, World.size_drew, World.heap_drewN] at hb3s); obtain ⟨hb3c, hb3f⟩ := bcell hb3; (try have : w.heap.size < w3.heap.size := by omega); (try have : w.heap.size + 1 < w3.heap.size := by omega); (try have : w.heap.size + 1 + 1 < w3.heap.size := by omega); (try have : w.heap.size + 1 + 1 + 1 < w3.heap.size := by omega); (try have : w1.heap.size < w3.heap.size := by omega); (try have : w1.heap.size + 1 < w3.heap.size := by omega); (try have : w1.heap.size + 1 + 1 < w3.heap.size := by omega); (try have : w1.heap.size + 1 + 1 + 1 < w3.heap.size := by omega); (try have : w2.heap.size < w3.heap.size := by omega); (try have : w2.heap.size + 1 < w3.heap.size := by omega); (try have : w2.heap.size + 1 + 1 < w3.heap.size := by omega); (try have : w2.heap.size + 1 + 1 + 1 < w3.heap.size := by omega)))
      go_ret2
      exact ⟨rfl, by (repeat' (first | (with_reducible exact Below.refl _ _) | (with_reducible assumption) | (with_reducible refine Below.drew ?_) | (with_reducible refine below_drewN ?_ _) | ((with_reducible refine Below.alloc ?_ ?_ _); rotate_left; focus (go_size; done)) | ((with_reducible refine Below.setCell ?_ ?_ _); rotate_left; focus (go_size; done)) | ((with_reducible refine Below.trans ?_ (Below.mono (by with_reducible assumption) ?_)); rotate_left; focus (go_size; done))))⟩
    | false =>
      rw [if_neg (by simp)] at hof
      subst hof
      clear H2
      go_enter Tryd.func9, Tryd.ntmps9
      go_wp2_with (first | ((go_at_call 17; with_reducible refine (H1.out _ (by (repeat' (first | (with_reducible exact Below.refl _ _) | (with_reducible assumption) | (with_reducible refine Below.drew ?_) | (with_reducible refine below_drewN ?_ _) | ((with_reducible refine Below.alloc ?_ ?_ _); rotate_left; focus (go_size; done)) | ((with_reducible refine Below.setCell ?_ ?_ _); rotate_left; focus (go_size; done)) | ((with_reducible refine Below.trans ?_ (Below.mono (by with_reducible assumption) ?_)); rotate_left; focus (go_size; done)))))).mono ?_); rintro _ w1 ⟨rfl, hb1⟩; have hb1s := hb1.size; (try simp only [World.size_alloc, World.size_setCell, World.size_drew, World.heap_drewN] at hb1s); obtain ⟨hb1c, hb1f⟩ := bcell hb1; (try have : w.heap.size < w1.heap.size := by omega); (try have : w.heap.size + 1 < w1.heap.size := by omega); (try have : w.heap.size + 1 + 1 < w1.heap.size := by omega); (try have : w.heap.size + 1 + 1 + 1 < w1.heap.size := by omega)) | ((go_at_call 20; with_reducible refine (H3.out _).mono ?_); rintro _ w2 ⟨rfl, hb2⟩; have hb2s := hb2.size; (try simp only [World.size_alloc, World.size_setCell, World.size_drew, World.heap_drewN] at hb2s); obtain ⟨hb2c, hb2f⟩ := bcell hb2; (try have : w.heap.size < w2.heap.size := by omega); (try have : w.heap.size + 1 < w2.heap.size := by omega); (try have : w.heap.size + 1 + 1 < w2.heap.size := by omega); (try have : w.heap.size + 1 + 1 + 1 < w2.heap.size := by omega); (try have : w1.heap.size < w2.heap.size := by omega); (try have : w1.heap.size + 1 < w2.heap.size := by omega); (try have : w1.heap.size + 1 + 1 < w2.heap.size := by omega); (try have : w1.heap.size + 1 + 1 + 1 < w2.heap.size := by omega)))
      go_ret2
      exact ⟨rfl, by (repeat' (first | (with_reducible exact Below.refl _ _) | (with_reducible assumption) | (with_reducible refine Below.drew ?_) | (with_reducible refine below_drewN ?_ _) | ((with_reducible refine Below.alloc ?_ ?_ _); rotate_left; focus (go_size; done)) | ((with_reducible refine Below.setCell ?_ ?_ _); rotate_left; focus (go_size; done)) | ((with_reducible refine Below.trans ?_ (Below.mono (by with_reducible assumption) ?_)); rotate_left; focus (go_size; done))))⟩
  · rw [if_pos h0] at hof
    subst hof
    have e0 : (e != 0) = true := by rw [bne_iff_ne]; exact h0
    clear H2 h0
    go_enter Tryd.func9, Tryd.ntmps9
    go_wp2_with ((go_at_call 17; with_reducible refine (H1.out _ (by (repeat' (first | (with_reducible exact Below.refl _ _) | (with_reducible assumption) | (with_reducible refine Below.drew ?_) | (with_reducible refine below_drewN ?_ _) | ((with_reducible refine Below.alloc ?_ ?_ _); rotate_left; focus (go_size; done)) | ((with_reducible refine Below.setCell ?_ ?_ _); rotate_left; focus (go_size; done)) | ((with_reducible refine Below.trans ?_ (Below.mono (by with_reducible assumption) ?_)); rotate_left; focus (go_size; done)))))).mono ?_); rintro _ w1 ⟨rfl, hb1⟩; have hb1s := hb1.size; (try simp only [World.size_alloc, World.size_setCell, World.size_drew, World.heap_drewN] at hb1s); obtain ⟨hb1c, hb1f⟩ := bcell hb1; (try have : w.heap.size < w1.heap.size := by omega); (try have : w.heap.size + 1 < w1.heap.size := by omega); (try have : w.heap.size + 1 + 1 < w1.heap.size := by omega); (try have : w.heap.size + 1 + 1 + 1 < w1.heap.size := by omega))
    go_ret2
    exact ⟨rfl, by (repeat' (first | (with_reducible exact Below.refl _ _) | (with_reducible assumption) | (with_reducible refine Below.drew ?_) | (with_reducible refine below_drewN ?_ _) | ((with_reducible refine Below.alloc ?_ ?_ _); rotate_left; focus (go_size; done)) | ((with_reducible refine Below.setCell ?_ ?_ _); rotate_left; focus (go_size; done)) | ((with_reducible refine Below.trans ?_ (Below.mono (by with_reducible assumption) ?_)); rotate_left; focus (go_size; done))))⟩
set_option maxRecDepth 100000 in
set_option maxHeartbeats 1000000 in
theorem pof_any (d : VD) (A : Option Addr) (C : Nat) (A2 : Option Addr) (C2 : Nat) (w : World) (hT : Tabs w) (h : VA w d A C A2 C2) :
    Calls Tryd.prog 7 #[vargs d A C A2 C2] w fun e w' => e = .returned (.tuple #[.agg #[.int .i64 (ofC d).1.1, .int .i64 (ofC d).1.2], .int .i64 (ofC d).2]) ∧ Below w.heap.size w w' := by
  have hc := fun (W : World) (hW : Below w.heap.size w W) => vcheck_any d A C A2 C2 W (tabs_below hT hW) (h.below hW)
  have hi := fun (W : World) (hW : Below w.heap.size w W) => items_any d.list A C W ((RV.below h hW).list.2.1)
  have hof : ofC d = if chkV d = 0 then (ofV d.s.kind d.list, 0) else ((0, 0), chkV d) := rfl
  obtain ⟨O, hO⟩ : ∃ O, O = ofC d := ⟨_, rfl⟩
  rw [← hO] at hof ⊢
  obtain ⟨e, he⟩ : ∃ e, e = chkV d := ⟨_, rfl⟩
  rw [← he] at hof
  simp only [← he] at hc
  have v6 : d.s.kind = 6 → ofV d.s.kind d.list = (0, 0) := fun h => if_pos h
  have v5 : d.s.kind ≠ 6 → d.s.kind = 5 → ofV d.s.kind d.list = (5, itemsF 0 d.list) := fun h h' => by unfold ofV; rw [if_neg h, if_pos h']
  have v0 : d.s.kind ≠ 6 → d.s.kind ≠ 5 → ofV d.s.kind d.list = (d.s.kind, 0) := fun h h' => by unfold ofV; rw [if_neg h, if_neg h']
  obtain ⟨I, hI⟩ : ∃ I, I = itemsF 0 d.list := ⟨_, rfl⟩
  rw [← hI] at v5
  simp only [← hI] at hi
  obtain ⟨s, l, nm⟩ := d
  obtain ⟨kind, yes, neg, coef, sc, text, day⟩ := s
  unfold vargs vagg
  unfold vargs vagg at hc
  dsimp only [VD.s, VD.list, VD.names] at hc hi hof v6 v5 v0 ⊢
  have H1 := Lib.hid hc
  have H2 := Lib.hid hi
  clear hc hi h hO he hI hT
  by_cases h0 : e = 0
  · subst h0
    rw [if_pos rfl] at hof
    by_cases k6 : kind = 6
    · subst k6
      rw [v6 rfl] at hof
      subst hof
      clear H2 v6 v5 v0
      go_enter Tryd.func7, Tryd.ntmps7
      go_wp2_with ((go_at_call 17; with_reducible refine (H1.out _ (by (repeat' (first | (with_reducible exact Below.refl _ _) | (with_reducible assumption) | (with_reducible refine Below.drew ?_) | (with_reducible refine below_drewN ?_ _) | ((with_reducible refine Below.alloc ?_ ?_ _); rotate_left; focus (go_size; done)) | ((with_reducible refine Below.setCell ?_ ?_ _); rotate_left; focus (go_size; done)) | ((with_reducible refine Below.trans ?_ (Below.mono (by with_reducible assumption) ?_)); rotate_left; focus (go_size; done)))))).mono ?_); rintro _ w1 ⟨rfl, hb1⟩; have hb1s := hb1.size; (try simp only [World.size_alloc, World.size_setCell, World.size_drew, World.heap_drewN] at hb1s); obtain ⟨hb1c, hb1f⟩ := bcell hb1; (try have : w.heap.size < w1.heap.size := by omega); (try have : w.heap.size + 1 < w1.heap.size := by omega); (try have : w.heap.size + 1 + 1 < w1.heap.size := by omega); (try have : w.heap.size + 1 + 1 + 1 < w1.heap.size := by omega))
      refine bodyPost_ret (by simp [results, Tryd.results7, go_sem, *]; try rfl) rfl ?_
      exact ⟨rfl, by (repeat' (first | (with_reducible exact Below.refl _ _) | (with_reducible assumption) | (with_reducible refine Below.drew ?_) | (with_reducible refine below_drewN ?_ _) | ((with_reducible refine Below.alloc ?_ ?_ _); rotate_left; focus (go_size; done)) | ((with_reducible refine Below.setCell ?_ ?_ _); rotate_left; focus (go_size; done)) | ((with_reducible refine Below.trans ?_ (Below.mono (by with_reducible assumption) ?_)); rotate_left; focus (go_size; done))))⟩
    · by_cases k5 : kind = 5
      · subst k5
        rw [v5 k6 rfl] at hof
        subst hof
        clear k6 v6 v5 v0
        go_enter Tryd.func7, Tryd.ntmps7
        go_wp2_with (first | ((go_at_call 17; with_reducible refine (H1.out _ (by (repeat' (first | (with_reducible exact Below.refl _ _) | (with_reducible assumption) | (with_reducible refine Below.drew ?_) | (with_reducible refine below_drewN ?_ _) | ((with_reducible refine Below.alloc ?_ ?_ _); rotate_left; focus (go_size; done)) | ((with_reducible refine Below.setCell ?_ ?_ _); rotate_left; focus (go_size; done)) | ((with_reducible refine Below.trans ?_ (Below.mono (by with_reducible assumption) ?_)); rotate_left; focus (go_size; done)))))).mono ?_); rintro _ w1 ⟨rfl, hb1⟩; have hb1s := hb1.size; (try simp only [World.size_alloc, World.size_setCell, World.size_drew, World.heap_drewN] at hb1s); obtain ⟨hb1c, hb1f⟩ := bcell hb1; (try have : w.heap.size < w1.heap.size := by omega); (try have : w.heap.size + 1 < w1.heap.size := by omega); (try have : w.heap.size + 1 + 1 < w1.heap.size := by omega); (try have : w.heap.size + 1 + 1 + 1 < w1.heap.size := by omega)) | ((go_at_call 18; with_reducible refine (H2.out _ (by (repeat' (first | (with_reducible exact Below.refl _ _) | (with_reducible assumption) | (with_reducible refine Below.drew ?_) | (with_reducible refine below_drewN ?_ _) | ((with_reducible refine Below.alloc ?_ ?_ _); rotate_left; focus (go_size; done)) | ((with_reducible refine Below.setCell ?_ ?_ _); rotate_left; focus (go_size; done)) | ((with_reducible refine Below.trans ?_ (Below.mono (by with_reducible assumption) ?_)); rotate_left; focus (go_size; done)))))).mono ?_); rintro _ w2 ⟨rfl, hb2⟩; have hb2s := hb2.size; (try simp only [World.size_alloc, World.size_setCell, World.size_drew, World.heap_drewN] at hb2s); obtain ⟨hb2c, hb2f⟩ := bcell hb2; (try have : w.heap.size < w2.heap.size := by omega); (try have : w.heap.size + 1 < w2.heap.size := by omega); (try have : w.heap.size + 1 + 1 < w2.heap.size := by omega); (try have : w.heap.size + 1 + 1 + 1 < w2.heap.size := by omega); (try have : w1.heap.size < w2.heap.size := by omega); (try have : w1.heap.size + 1 < w2.heap.size := by omega); (try have : w1.heap.size + 1 + 1 < w2.heap.size := by omega); (try have : w1.heap.size + 1 + 1 + 1 < w2.heap.size := by omega)))
        refine bodyPost_ret (by simp [results, Tryd.results7, go_sem, *]; try rfl) rfl ?_
        exact ⟨rfl, by (repeat' (first | (with_reducible exact Below.refl _ _) | (with_reducible assumption) | (with_reducible refine Below.drew ?_) | (with_reducible refine below_drewN ?_ _) | ((with_reducible refine Below.alloc ?_ ?_ _); rotate_left; focus (go_size; done)) | ((with_reducible refine Below.setCell ?_ ?_ _); rotate_left; focus (go_size; done)) | ((with_reducible refine Below.trans ?_ (Below.mono (by with_reducible assumption) ?_)); rotate_left; focus (go_size; done))))⟩
      · rw [v0 k6 k5] at hof
        subst hof
        clear v6 v5 v0
        have e6 : (kind == 6) = false := by rw [beq_eq_false_iff_ne]; exact k6
        have e5 : (kind == 5) = false := by rw [beq_eq_false_iff_ne]; exact k5
        clear H2 k5 k6
        go_enter Tryd.func7, Tryd.ntmps7
        go_wp2_with ((go_at_call 17; with_reducible refine (H1.out _ (by (repeat' (first | (with_reducible exact Below.refl _ _) | (with_reducible assumption) | (with_reducible refine Below.drew ?_) | (with_reducible refine below_drewN ?_ _) | ((with_reducible refine Below.alloc ?_ ?_ _); rotate_left; focus (go_size; done)) | ((with_reducible refine Below.setCell ?_ ?_ _); rotate_left; focus (go_size; done)) | ((with_reducible refine Below.trans ?_ (Below.mono (by with_reducible assumption) ?_)); rotate_left; focus (go_size; done)))))).mono ?_); rintro _ w1 ⟨rfl, hb1⟩; have hb1s := hb1.size; (try simp only [World.size_alloc, World.size_setCell, World.size_drew, World.heap_drewN] at hb1s); obtain ⟨hb1c, hb1f⟩ := bcell hb1; (try have : w.heap.size < w1.heap.size := by omega); (try have : w.heap.size + 1 < w1.heap.size := by omega); (try have : w.heap.size + 1 + 1 < w1.heap.size := by omega); (try have : w.heap.size + 1 + 1 + 1 < w1.heap.size := by omega))
        refine bodyPost_ret (by simp [results, Tryd.results7, go_sem, *]; try rfl) rfl ?_
        exact ⟨rfl, by (repeat' (first | (with_reducible exact Below.refl _ _) | (with_reducible assumption) | (with_reducible refine Below.drew ?_) | (with_reducible refine below_drewN ?_ _) | ((with_reducible refine Below.alloc ?_ ?_ _); rotate_left; focus (go_size; done)) | ((with_reducible refine Below.setCell ?_ ?_ _); rotate_left; focus (go_size; done)) | ((with_reducible refine Below.trans ?_ (Below.mono (by with_reducible assumption) ?_)); rotate_left; focus (go_size; done))))⟩
  · rw [if_neg h0] at hof
    subst hof
    have e0 : (e != 0) = true := by rw [bne_iff_ne]; exact h0
    clear H2 h0 v6 v5 v0
    go_enter Tryd.func7, Tryd.ntmps7
    go_wp2_with ((go_at_call 17; with_reducible refine (H1.out _ (by (repeat' (first | (with_reducible exact Below.refl _ _) | (with_reducible assumption) | (with_reducible refine Below.drew ?_) | (with_reducible refine below_drewN ?_ _) | ((with_reducible refine Below.alloc ?_ ?_ _); rotate_left; focus (go_size; done)) | ((with_reducible refine Below.setCell ?_ ?_ _); rotate_left; focus (go_size; done)) | ((with_reducible refine Below.trans ?_ (Below.mono (by with_reducible assumption) ?_)); rotate_left; focus (go_size; done)))))).mono ?_); rintro _ w1 ⟨rfl, hb1⟩; have hb1s := hb1.size; (try simp only [World.size_alloc, World.size_setCell, World.size_drew, World.heap_drewN] at hb1s); obtain ⟨hb1c, hb1f⟩ := bcell hb1; (try have : w.heap.size < w1.heap.size := by omega); (try have : w.heap.size + 1 < w1.heap.size := by omega); (try have : w.heap.size + 1 + 1 < w1.heap.size := by omega); (try have : w.heap.size + 1 + 1 + 1 < w1.heap.size := by omega))
    refine bodyPost_ret (by simp [results, Tryd.results7, go_sem, *]; try rfl) rfl ?_
    exact ⟨rfl, by (repeat' (first | (with_reducible exact Below.refl _ _) | (with_reducible assumption) | (with_reducible refine Below.drew ?_) | (with_reducible refine below_drewN ?_ _) | ((with_reducible refine Below.alloc ?_ ?_ _); rotate_left; focus (go_size; done)) | ((with_reducible refine Below.setCell ?_ ?_ _); rotate_left; focus (go_size; done)) | ((with_reducible refine Below.trans ?_ (Below.mono (by with_reducible assumption) ?_)); rotate_left; focus (go_size; done))))⟩
end Go.Proofs.YtanjbdhjnmmfdaaDoor

set_option linter.unusedSimpArgs false
set_option linter.unusedVariables false
namespace Go.Proofs.YtanjbdhjnmmfdaaDoor
open Go.RowKit

theorem itemsF_spec : ∀ (l : List VD) (q : Int), (∀ x, x ∈ l → 0 ≤ x.s.kind) → (q = 0 ∨ (1 ≤ q ∧ q ≤ 4)) →
    itemsF q l = 0 ∨ (1 ≤ itemsF q l ∧ itemsF q l ≤ 4 ∧ (q = 0 ∨ q = itemsF q l) ∧ ∀ x, x ∈ l → x.s.kind = 0 ∨ x.s.kind = itemsF q l)
  | [], q, _, hq => by
    unfold itemsF
    rcases hq with h | ⟨h1, h2⟩
    · exact .inl h
    · exact .inr ⟨h1, h2, .inr rfl, fun x hx => by cases hx⟩
  | x :: r, q, h, hq => by
    unfold itemsF
    have hx := h x (List.mem_cons_self ..)
    have hr : ∀ y, y ∈ r → 0 ≤ y.s.kind := fun y hy => h y (List.mem_cons_of_mem _ hy)
    split
    · rename_i h0
      rcases itemsF_spec r q hr hq with e | ⟨e1, e2, e3, e4⟩
      · exact .inl e
      · refine .inr ⟨e1, e2, e3, fun y hy => ?_⟩
        rcases List.mem_cons.1 hy with rfl | hy
        · exact .inl h0
        · exact e4 y hy
    · rename_i h0
      split
      · exact .inl rfl
      · rename_i hc
        have hk : x.s.kind ≤ 4 := by omega
        have hqk : q = 0 ∨ x.s.kind = q := by omega
        rcases itemsF_spec r x.s.kind hr (.inr ⟨by omega, hk⟩) with e | ⟨e1, e2, e3, e4⟩
        · exact .inl e
        · have e5 : x.s.kind = itemsF x.s.kind r := by rcases e3 with e3 | e3; exact absurd e3 h0; exact e3
          refine .inr ⟨e1, e2, ?_, fun y hy => ?_⟩
          · rcases hqk with g | g
            · exact .inl g
            · exact .inr (g.symm.trans e5)
          · rcases List.mem_cons.1 hy with rfl | hy
            · exact .inr e5
            · exact e4 y hy
theorem own_kind {s : VS} {ll : Nat} {nm : List (List UInt8)} (h : ownB s ll nm = true) : 0 ≤ s.kind ∧ s.kind ≤ 6 := by
  unfold ownB at h
  rw [Bool.and_eq_true] at h
  have h2 := h.2
  unfold kindB at h2
  by_cases hk : 0 ≤ s.kind ∧ s.kind ≤ 6
  · exact hk
  · rw [if_neg (by omega), if_neg (by omega), if_neg (by omega), if_neg (by omega), if_neg (by omega)] at h2
    exact Bool.noConfusion h2
theorem oks_mem : ∀ {l : List VD}, oks l = true → ∀ x, x ∈ l → okV x = true
  | [], _, x, hx => by cases hx
  | y :: r, h, x, hx => by
    unfold oks at h
    rw [Bool.and_eq_true] at h
    rcases List.mem_cons.1 hx with rfl | hx
    · exact h.1
    · exact oks_mem h.2 x hx
theorem chk_ok {d : VD} (h : chkV d = 0) : okV d = true := by
  unfold chkV at h
  split at h
  · cases h
  · split at h
    · cases h
    · split at h
      · assumption
      · cases h
theorem ok_kind {d : VD} (h : okV d = true) : 0 ≤ d.s.kind ∧ d.s.kind ≤ 6 := by
  rw [okV_eq, Bool.and_eq_true] at h
  exact own_kind h.1
theorem ok_list {d : VD} (h : okV d = true) : ∀ x, x ∈ d.list → 0 ≤ x.s.kind := fun x hx => by
  rw [okV_eq, Bool.and_eq_true] at h
  exact (ok_kind (oks_mem h.2 x hx)).1
theorem of_form {d : VD} (h : chkV d = 0) : formB (ofV d.s.kind d.list).1 (ofV d.s.kind d.list).2 = true := by
  obtain ⟨k0, k6⟩ := ok_kind (chk_ok h)
  unfold ofV
  split
  · rfl
  · split
    · rcases itemsF_spec d.list 0 (ok_list (chk_ok h)) (.inl rfl) with e | ⟨e1, e2, _⟩
      · rw [e]; rfl
      · unfold formB; rw [if_pos rfl]; exact decide_eq_true (by omega)
    · unfold formB
      dsimp only
      rw [if_neg (by omega)]; exact decide_eq_true (by omega)
theorem fits_own {d : VD} (h : chkV d = 0) : fitsD d.s.kind d.list (ofV d.s.kind d.list).1 (ofV d.s.kind d.list).2 = true := by
  unfold ofV
  split
  · exact fitsD_zero (.inr rfl)
  · split
    · rename_i h6 h5
      rcases itemsF_spec d.list 0 (ok_list (chk_ok h)) (.inl rfl) with e | ⟨e1, e2, _, e4⟩
      · rw [e]; exact fitsD_of0 h5
      · refine fitsD_all (by omega) h5 fun t ht => ?_
        refine e4 _ ?_
        unfold vg
        rw [List.getD_eq_getElem?_getD, List.getElem?_eq_getElem ht]
        exact List.getElem_mem _
    · exact fitsD_of0 rfl
theorem underB_iff {a b c d : Int} : underB a b c d = true ↔ (a = c ∧ b = d) ∨ c = 0 ∨ (a = 5 ∧ c = 5 ∧ d = 0) := by
  unfold underB
  simp only [Bool.or_eq_true, decide_eq_true_eq]
  exact or_assoc
/-- what fits a type fits all above it -/
theorem fits_up {k : Int} {l : List VD} {a b c d : Int} (hu : underB a b c d = true) (hf : fitsD k l a b = true) : fitsD k l c d = true := by
  rcases underB_iff.1 hu with ⟨rfl, rfl⟩ | rfl | ⟨rfl, rfl, rfl⟩
  · exact hf
  · exact fitsD_zero (.inr rfl)
  · unfold fitsD at hf ⊢
    by_cases h0 : k = 0 ∨ (5 : Int) = 0
    · rw [decide_eq_true h0]; rfl
    · rw [decide_eq_false h0, Bool.false_or, Bool.and_eq_true] at hf
      rw [hf.1]; simp
theorem joinP_facts : ∀ i j : Fin 10, formB (joinP (ofT (i.val : Int)) (ofT (j.val : Int))).1 (joinP (ofT (i.val : Int)) (ofT (j.val : Int))).2 = true ∧
    joinP (ofT (i.val : Int)) (ofT (j.val : Int)) = joinP (ofT (j.val : Int)) (ofT (i.val : Int)) ∧
    underB (ofT (i.val : Int)).1 (ofT (i.val : Int)).2 (joinP (ofT (i.val : Int)) (ofT (j.val : Int))).1 (joinP (ofT (i.val : Int)) (ofT (j.val : Int))).2 = true ∧
    underB (ofT (j.val : Int)).1 (ofT (j.val : Int)).2 (joinP (ofT (i.val : Int)) (ofT (j.val : Int))).1 (joinP (ofT (i.val : Int)) (ofT (j.val : Int))).2 = true ∧
    underB (ofT (i.val : Int)).1 (ofT (i.val : Int)).2 (ofT (j.val : Int)).1 (ofT (j.val : Int)).2 = decide (joinP (ofT (i.val : Int)) (ofT (j.val : Int)) = ofT (j.val : Int)) := by decide +kernel
theorem joinP_laws {a1 a2 b1 b2 : Int} (ha : formB a1 a2 = true) (hb : formB b1 b2 = true) : formB (joinP (a1, a2) (b1, b2)).1 (joinP (a1, a2) (b1, b2)).2 = true ∧ joinP (a1, a2) (b1, b2) = joinP (b1, b2) (a1, a2) ∧
    underB a1 a2 (joinP (a1, a2) (b1, b2)).1 (joinP (a1, a2) (b1, b2)).2 = true ∧ underB b1 b2 (joinP (a1, a2) (b1, b2)).1 (joinP (a1, a2) (b1, b2)).2 = true ∧ underB a1 a2 b1 b2 = decide (joinP (a1, a2) (b1, b2) = (b1, b2)) := by
  obtain ⟨i, hi⟩ := form_cases a1 a2 ha
  obtain ⟨j, hj⟩ := form_cases b1 b2 hb
  have := joinP_facts i j
  rw [hi, hj] at this
  exact this
end Go.Proofs.YtanjbdhjnmmfdaaDoor

set_option linter.unusedSimpArgs false
set_option linter.unusedVariables false
namespace Go.Proofs.YtanjbdhjnmmfdaaDoor
open Go.RowKit

def simpleS : Nat → List UInt8
  | 0 => [97, 110, 121]
  | 1 => [98, 111, 111, 108, 101, 97, 110]
  | 2 => [110, 117, 109, 98, 101, 114]
  | 3 => [115, 116, 114, 105, 110, 103]
  | _ => [100, 97, 116, 101]
theorem simpleS_len (k : Nat) : (simpleS k).length ≤ 7 := by unfold simpleS; split <;> decide
set_option maxHeartbeats 400000 in
theorem simple_any (k : Int) (h0 : 0 ≤ k) (hk : k < 5) (w : World) : Calls Tryd.prog 27 #[.int .i64 k] w fun e w' => e = .returned (.string ⟨(simpleS k.toNat).toArray⟩) ∧ Below w.heap.size w w' := by
  have i0 : ∀ w, (Instr.index 64 (.agg #[.string ⟨#[97, 110, 121]⟩, .string ⟨#[98, 111, 111, 108, 101, 97, 110]⟩, .string ⟨#[110, 117, 109, 98, 101, 114]⟩, .string ⟨#[115, 116, 114, 105, 110, 103]⟩, .string ⟨#[100, 97, 116, 101]⟩]) (.int .i64 0)).run Tryd.prog w = .ok (.string ⟨#[97, 110, 121]⟩) w := fun _ => by kernel_rfl
  have i1 : ∀ w, (Instr.index 64 (.agg #[.string ⟨#[97, 110, 121]⟩, .string ⟨#[98, 111, 111, 108, 101, 97, 110]⟩, .string ⟨#[110, 117, 109, 98, 101, 114]⟩, .string ⟨#[115, 116, 114, 105, 110, 103]⟩, .string ⟨#[100, 97, 116, 101]⟩]) (.int .i64 1)).run Tryd.prog w = .ok (.string ⟨#[98, 111, 111, 108, 101, 97, 110]⟩) w := fun _ => by kernel_rfl
  have i2 : ∀ w, (Instr.index 64 (.agg #[.string ⟨#[97, 110, 121]⟩, .string ⟨#[98, 111, 111, 108, 101, 97, 110]⟩, .string ⟨#[110, 117, 109, 98, 101, 114]⟩, .string ⟨#[115, 116, 114, 105, 110, 103]⟩, .string ⟨#[100, 97, 116, 101]⟩]) (.int .i64 2)).run Tryd.prog w = .ok (.string ⟨#[110, 117, 109, 98, 101, 114]⟩) w := fun _ => by kernel_rfl
  have i3 : ∀ w, (Instr.index 64 (.agg #[.string ⟨#[97, 110, 121]⟩, .string ⟨#[98, 111, 111, 108, 101, 97, 110]⟩, .string ⟨#[110, 117, 109, 98, 101, 114]⟩, .string ⟨#[115, 116, 114, 105, 110, 103]⟩, .string ⟨#[100, 97, 116, 101]⟩]) (.int .i64 3)).run Tryd.prog w = .ok (.string ⟨#[115, 116, 114, 105, 110, 103]⟩) w := fun _ => by kernel_rfl
  have i4 : ∀ w, (Instr.index 64 (.agg #[.string ⟨#[97, 110, 121]⟩, .string ⟨#[98, 111, 111, 108, 101, 97, 110]⟩, .string ⟨#[110, 117, 109, 98, 101, 114]⟩, .string ⟨#[115, 116, 114, 105, 110, 103]⟩, .string ⟨#[100, 97, 116, 101]⟩]) (.int .i64 4)).run Tryd.prog w = .ok (.string ⟨#[100, 97, 116, 101]⟩) w := fun _ => by kernel_rfl
  have hk' : k = 0 ∨ k = 1 ∨ k = 2 ∨ k = 3 ∨ k = 4 := by omega
  rcases hk' with rfl | rfl | rfl | rfl | rfl
  all_goals
    go_enter Tryd.func27, Tryd.ntmps27
    go_wp2
    go_ret
    exact ⟨rfl, by (repeat' (first | (with_reducible exact Below.refl _ _) | (with_reducible assumption) | (with_reducible refine Below.drew ?_) | (with_reducible refine below_drewN ?_ _) | ((with_reducible refine Below.alloc ?_ ?_ _); rotate_left; focus (go_size; done)) | ((with_reducible refine Below.setCell ?_ ?_ _); rotate_left; focus (go_size; done)) | ((with_reducible refine Below.trans ?_ (Below.mono (by with_reducible assumption) ?_)); rotate_left; focus (go_size; done))))⟩


def listS : List UInt8 := [108, 105, 115, 116, 60]
def nameS (i : Nat) : List UInt8 := if i < 5 then simpleS i else listS ++ simpleS (i - 5) ++ [62]
/-- Name of a type in form: its name. -/
def nameT (k o : Int) : List UInt8 := if formB k o = true then nameS (numB k o).toNat else []
def errT (k o : Int) : Int := if formB k o = true then 0 else 2
theorem numB_bd (k o : Int) (hf : formB k o = true) : 0 ≤ numB k o ∧ numB k o < 10 := by
  refine ⟨by have := form_num k o; rw [hf] at this; simpa using this, ?_⟩
  unfold numB; split <;> (try split) <;> omega
set_option maxHeartbeats 400000 in
theorem kname_any (k o : Int) (w : World) : Calls Tryd.prog 14 #[.agg #[.int .i64 k, .int .i64 o]] w fun e w' => e = .returned (.tuple #[.string ⟨(nameT k o).toArray⟩, .int .i64 (errT k o)]) ∧ Below w.heap.size w w' := by
  cases hf : formB k o
  · have e1 : nameT k o = [] := by simp [nameT, hf]
    have e2 : errT k o = 2 := by simp [errT, hf]
    rw [e1, e2]
    clear e1 e2
    go_enter Tryd.func14, Tryd.ntmps14
    go_wp2_with ((go_at_call 20; with_reducible refine (kform_any _ _ _).mono ?_); rintro _ w1 ⟨rfl, hb1⟩; have hb1s := hb1.size; (try simp only [World.size_alloc, World.size_setCell, World.size_drew, World.heap_drewN] at hb1s); obtain ⟨hb1c, hb1f⟩ := bcell hb1; (try have : w.heap.size < w1.heap.size := by omega); (try have : w.heap.size + 1 < w1.heap.size := by omega); (try have : w.heap.size + 1 + 1 < w1.heap.size := by omega); (try have : w.heap.size + 1 + 1 + 1 < w1.heap.size := by omega))
    go_ret2
    exact ⟨rfl, by (repeat' (first | (with_reducible exact Below.refl _ _) | (with_reducible assumption) | (with_reducible refine Below.drew ?_) | (with_reducible refine below_drewN ?_ _) | ((with_reducible refine Below.alloc ?_ ?_ _); rotate_left; focus (go_size; done)) | ((with_reducible refine Below.setCell ?_ ?_ _); rotate_left; focus (go_size; done)) | ((with_reducible refine Below.trans ?_ (Below.mono (by with_reducible assumption) ?_)); rotate_left; focus (go_size; done))))⟩
  · have e2 : errT k o = 0 := by simp [errT, hf]
    rw [e2]
    clear e2
    by_cases h5 : k = 5
    · subst h5
      have ho : 0 ≤ o ∧ o < 5 := by simpa [formB] using hf
      have e1 : nameT 5 o = listS ++ simpleS o.toNat ++ [62] := by
        have e : numB 5 o = 5 + o := by unfold numB; rw [if_neg (by omega), if_pos (by omega)]
        simp only [nameT, hf, if_true, e, nameS]
        rw [if_neg (by omega), show (5 + o).toNat - 5 = o.toNat by omega]
      rw [e1]
      have hs := fun W => simple_any o ho.1 ho.2 W
      have hq : (simpleS o.toNat).length ≤ 7 := simpleS_len _
      generalize simpleS o.toNat = q at *
      have HN := Lib.hid hs
      clear hs e1 ho
      go_enter Tryd.func14, Tryd.ntmps14
      go_wp2_with (first
        | ((go_at_call 20; with_reducible refine (kform_any _ _ _).mono ?_); rintro _ w1 ⟨rfl, hb1⟩; have hb1s := hb1.size; (try simp only [World.size_alloc, World.size_setCell, World.size_drew, World.heap_drewN] at hb1s); obtain ⟨hb1c, hb1f⟩ := bcell hb1; (try have : w.heap.size < w1.heap.size := by omega); (try have : w.heap.size + 1 < w1.heap.size := by omega); (try have : w.heap.size + 1 + 1 < w1.heap.size := by omega); (try have : w.heap.size + 1 + 1 + 1 < w1.heap.size := by omega))
        | ((go_at_call 27; with_reducible refine (HN.out _).mono ?_); rintro _ w2 ⟨rfl, hb2⟩; have hb2s := hb2.size; (try simp only [World.size_alloc, World.size_setCell, World.size_drew, World.heap_drewN] at hb2s); obtain ⟨hb2c, hb2f⟩ := bcell hb2; (try have : w.heap.size < w2.heap.size := by omega); (try have : w.heap.size + 1 < w2.heap.size := by omega); (try have : w.heap.size + 1 + 1 < w2.heap.size := by omega); (try have : w.heap.size + 1 + 1 + 1 < w2.heap.size := by omega)))
      go_ret2
      refine ⟨?_, by (repeat' (first | (with_reducible exact Below.refl _ _) | (with_reducible assumption) | (with_reducible refine Below.drew ?_) | (with_reducible refine below_drewN ?_ _) | ((with_reducible refine Below.alloc ?_ ?_ _); rotate_left; focus (go_size; done)) | ((with_reducible refine Below.setCell ?_ ?_ _); rotate_left; focus (go_size; done)) | ((with_reducible refine Below.trans ?_ (Below.mono (by with_reducible assumption) ?_)); rotate_left; focus (go_size; done))))⟩
      show Ending.returned (.tuple #[.string _, _]) = _
      rw [show (⟨#[108, 105, 115, 116, 60]⟩ : ByteArray) = ⟨listS.toArray⟩ from rfl, show (⟨#[62]⟩ : ByteArray) = ⟨([62] : List UInt8).toArray⟩ from rfl, ByteArray.mk_append_mk, ByteArray.mk_append_mk]
      rfl
    · have h1 : 0 ≤ k ∧ k < 5 ∧ o = 0 := by simpa [formB, h5] using hf
      obtain ⟨h1, h2, rfl⟩ := h1
      have e1 : nameT k 0 = simpleS k.toNat := by
        have e : numB k 0 = k := by unfold numB; rw [if_pos (by omega)]
        simp only [nameT, hf, if_true, e, nameS]
        rw [if_pos (by omega)]
      rw [e1]
      have hs := fun W => simple_any k h1 h2 W
      generalize simpleS k.toNat = q at *
      have HN := Lib.hid hs
      have n5 : (k == 5) = false := by simp; omega
      clear hs e1 h5
      go_enter Tryd.func14, Tryd.ntmps14
      go_wp2_with (first
        | ((go_at_call 20; with_reducible refine (kform_any _ _ _).mono ?_); rintro _ w1 ⟨rfl, hb1⟩; have hb1s := hb1.size; (try simp only [World.size_alloc, World.size_setCell, World.size_drew, World.heap_drewN] at hb1s); obtain ⟨hb1c, hb1f⟩ := bcell hb1; (try have : w.heap.size < w1.heap.size := by omega); (try have : w.heap.size + 1 < w1.heap.size := by omega); (try have : w.heap.size + 1 + 1 < w1.heap.size := by omega); (try have : w.heap.size + 1 + 1 + 1 < w1.heap.size := by omega))
        | ((go_at_call 27; with_reducible refine (HN.out _).mono ?_); rintro _ w2 ⟨rfl, hb2⟩; have hb2s := hb2.size; (try simp only [World.size_alloc, World.size_setCell, World.size_drew, World.heap_drewN] at hb2s); obtain ⟨hb2c, hb2f⟩ := bcell hb2; (try have : w.heap.size < w2.heap.size := by omega); (try have : w.heap.size + 1 < w2.heap.size := by omega); (try have : w.heap.size + 1 + 1 < w2.heap.size := by omega); (try have : w.heap.size + 1 + 1 + 1 < w2.heap.size := by omega)))
      go_ret2
      exact ⟨rfl, by (repeat' (first | (with_reducible exact Below.refl _ _) | (with_reducible assumption) | (with_reducible refine Below.drew ?_) | (with_reducible refine below_drewN ?_ _) | ((with_reducible refine Below.alloc ?_ ?_ _); rotate_left; focus (go_size; done)) | ((with_reducible refine Below.setCell ?_ ?_ _); rotate_left; focus (go_size; done)) | ((with_reducible refine Below.trans ?_ (Below.mono (by with_reducible assumption) ?_)); rotate_left; focus (go_size; done))))⟩
end Go.Proofs.YtanjbdhjnmmfdaaDoor

set_option linter.unusedSimpArgs false
set_option linter.unusedVariables false
namespace Go.Proofs.YtanjbdhjnmmfdaaDoor
open Go.RowKit

def ofR : Option Nat → Int × Int × Int
  | none => (0, 0, 8)
  | some i => ((ofT i).1, (ofT i).2, 0)
def parseT (l : List UInt8) : Option Nat := (List.range 10).find? fun i => nameS i == l
theorem parseT_none {l : List UInt8} (h : ∀ j, j < 10 → nameS j ≠ l) : parseT l = none := by
  unfold parseT
  rw [List.find?_eq_none]
  intro x hx
  simpa using h x (by simpa using hx)
theorem parseT_some {l : List UInt8} (n : Nat) (hn : n < 10) (h : ∀ j, j < n → nameS j ≠ l) (e : nameS n = l) : parseT l = some n := by
  unfold parseT
  rw [List.find?_range_eq_some]
  refine ⟨by simpa using e, by simpa using hn, ?_⟩
  intro j hj
  simpa using h j hj

/-- what is left between the list's brackets, and whether there are such -/
def innerL (l : List UInt8) : List UInt8 := Lib.trimPrefix l listS
theorem parse_low {l : List UInt8} (h : Lib.hasPrefix l listS = false) (n : Nat) (hn : n < 5) (e : simpleS n = l) (hno : ∀ j, j < n → simpleS j ≠ l) : parseT l = some n := by
  refine parseT_some n (by omega) ?_ (by unfold nameS; rw [if_pos hn, e])
  intro j hj
  unfold nameS
  rw [if_pos (by omega)]
  exact hno j hj
theorem parse_no {l : List UInt8} (h : Lib.hasPrefix l listS = false) (hno : ∀ j, j < 5 → simpleS j ≠ l) : parseT l = none := by
  refine parseT_none fun j hj => ?_
  unfold nameS
  split
  · exact hno j (by assumption)
  · intro e
    rw [← e] at h
    simp [Lib.hasPrefix, listS] at h
theorem simple_no_list (j : Nat) (q : List UInt8) : simpleS j ≠ listS ++ q := by
  intro e
  unfold simpleS at e
  split at e <;> simp [listS] at e
theorem parse_open {l : List UInt8} (h : Lib.hasPrefix l listS = true) (h2 : Lib.hasSuffix (Lib.trimPrefix l listS) [62] = false) : parseT l = none := by
  refine parseT_none fun j hj => ?_
  have h' : listS <+: l := List.isPrefixOf_iff_prefix.1 h
  obtain ⟨q, rfl⟩ := h'
  have e1 : Lib.trimPrefix (listS ++ q) listS = q := by unfold Lib.trimPrefix; rw [if_pos h]; simp
  rw [e1] at h2
  unfold nameS
  split
  · exact simple_no_list j q
  · intro e
    rw [List.append_assoc] at e
    have e := List.append_cancel_left e
    rw [← e] at h2
    have : ([62] : List UInt8) <:+ simpleS (j - 5) ++ [62] := List.suffix_append _ _
    rw [Lib.hasSuffix, List.isSuffixOf_iff_suffix.2 this] at h2
    cases h2
theorem parse_shape {l : List UInt8} (h : Lib.hasPrefix l listS = true) (h2 : Lib.hasSuffix (Lib.trimPrefix l listS) [62] = true) :
    l = listS ++ Lib.trimSuffix (Lib.trimPrefix l listS) [62] ++ [62] := by
  have h' : listS <+: l := List.isPrefixOf_iff_prefix.1 h
  obtain ⟨q, rfl⟩ := h'
  have e1 : Lib.trimPrefix (listS ++ q) listS = q := by unfold Lib.trimPrefix; rw [if_pos h]; simp
  rw [e1] at h2 ⊢
  have h'' : [62] <:+ q := List.isSuffixOf_iff_suffix.1 h2
  obtain ⟨r, rfl⟩ := h''
  have e2 : Lib.trimSuffix (r ++ [62]) [62] = r := by unfold Lib.trimSuffix; rw [if_pos h2]; simp
  rw [e2, List.append_assoc]
theorem parse_high {l q : List UInt8} (hl : l = listS ++ q ++ [62]) (n : Nat) (hn : n < 5) (e : simpleS n = q) (hno : ∀ j, j < n → simpleS j ≠ q) : parseT l = some (5 + n) := by
  subst hl
  refine parseT_some (5 + n) (by omega) ?_ (by unfold nameS; rw [if_neg (by omega), show 5 + n - 5 = n by omega, e])
  intro j hj
  unfold nameS
  split
  · rw [List.append_assoc]; exact simple_no_list j _
  · intro e2
    have e2 := List.append_cancel_right e2
    have e2 := List.append_cancel_left e2
    exact hno (j - 5) (by omega) e2
theorem parse_high_no {l q : List UInt8} (hl : l = listS ++ q ++ [62]) (hno : ∀ j, j < 5 → simpleS j ≠ q) : parseT l = none := by
  subst hl
  refine parseT_none fun j hj => ?_
  unfold nameS
  split
  · rw [List.append_assoc]; exact simple_no_list j _
  · intro e2
    have e2 := List.append_cancel_right e2
    have e2 := List.append_cancel_left e2
    exact hno (j - 5) (by omega) e2
end Go.Proofs.YtanjbdhjnmmfdaaDoor

set_option linter.unusedSimpArgs false
set_option linter.unusedVariables false
namespace Go.Proofs.YtanjbdhjnmmfdaaDoor
open Go.RowKit

theorem cutp (l : List UInt8) (w : World) : Calls Tryd.prog 28 #[.string ⟨l.toArray⟩, .string ⟨#[108, 105, 115, 116, 60]⟩] w fun e w' => e = .returned (.tuple #[.string ⟨(Lib.trimPrefix l listS).toArray⟩, .bool (Lib.hasPrefix l listS)]) ∧ Below w.heap.size w w' :=
  (Tryd.strings_CutPrefix ⟨l.toArray⟩ ⟨listS.toArray⟩ w).mono fun e w' h => by
    obtain ⟨h1, h2⟩ := h
    subst h2
    exact ⟨by simpa using h1, Below.refl _ _⟩
theorem cuts (l : List UInt8) (hl : l.length ≤ 9223372036854775807) (w : World) : Calls Tryd.prog 29 #[.string ⟨l.toArray⟩, .string ⟨#[62]⟩] w fun e w' => e = .returned (.tuple #[.string ⟨(Lib.trimSuffix l [62]).toArray⟩, .bool (Lib.hasSuffix l [62])]) ∧ Below w.heap.size w w' :=
  (Tryd.strings_CutSuffix ⟨l.toArray⟩ ⟨([62] : List UInt8).toArray⟩ w (by simpa [ByteArray.size] using hl)).mono fun e w' h => by
    obtain ⟨h1, h2⟩ := h
    subst h2
    exact ⟨by simpa using h1, Below.refl _ _⟩
theorem trim_len (l p : List UInt8) : (Lib.trimPrefix l p).length ≤ l.length := by
  unfold Lib.trimPrefix; split <;> simp

set_option maxHeartbeats 1000000 in
theorem parse_any (l : List UInt8) (hl : l.length ≤ 9223372036854775807) (w : World) : Calls Tryd.prog 15 #[.string ⟨l.toArray⟩] w fun e w' => e = .returned (.tuple #[.agg #[.int .i64 (ofR (parseT l)).1, .int .i64 (ofR (parseT l)).2.1], .int .i64 (ofR (parseT l)).2.2]) ∧ Below w.heap.size w w' := by
  cases hp : Lib.hasPrefix l listS
  · have e0 : Lib.trimPrefix l listS = l := by unfold Lib.trimPrefix; rw [hp]; rfl
    have HC := Lib.hid (fun W => cutp l W)
    rw [e0, hp] at HC
    have HP := Lib.hid hp
    clear hp e0 hl
    go_enter Tryd.func15, Tryd.ntmps15
    go_wp2_with ((go_at_call 28; with_reducible refine (HC.out _).mono ?_); rintro _ w1 ⟨rfl, hb1⟩; have hb1s := hb1.size; (try simp only [World.size_alloc, World.size_setCell, World.size_drew, World.heap_drewN] at hb1s); obtain ⟨hb1c, hb1f⟩ := bcell hb1; (try have : w.heap.size < w1.heap.size := by omega); (try have : w.heap.size + 1 < w1.heap.size := by omega); (try have : w.heap.size + 1 + 1 < w1.heap.size := by omega); (try have : w.heap.size + 1 + 1 + 1 < w1.heap.size := by omega))
    clear hb1c hb1f
    go_loopg [22] 5 (fun k i wr => ∃ n : Nat, k + n = 5 ∧ i = .int .i64 n ∧ w.heap.size + 1 ≤ wr.heap.size ∧ Below w.heap.size w wr ∧
      Bk wr w.heap.size 32 [.int .i64 0, .int .i64 0] ∧ ∀ j, j < n → simpleS j ≠ l)
    case atStart =>
      exact ⟨0, rfl, rfl, by go_size, by (repeat' (first | (with_reducible exact Below.refl _ _) | (with_reducible assumption) | (with_reducible refine Below.drew ?_) | (with_reducible refine below_drewN ?_ _) | ((with_reducible refine Below.alloc ?_ ?_ _); rotate_left; focus (go_size; done)) | ((with_reducible refine Below.setCell ?_ ?_ _); rotate_left; focus (go_size; done)) | ((with_reducible refine Below.trans ?_ (Below.mono (by with_reducible assumption) ?_)); rotate_left; focus (go_size; done)))), by (repeat (first | (with_reducible assumption) | ((with_reducible refine Bk.new_ ?_); (first | rfl | (simp only [World.size_alloc, World.size_setCell, World.size_drew, World.heap_drewN]; done))) | (with_reducible refine Bk.alloc ?_ _) | (with_reducible refine Bk.drew ?_) | (with_reducible refine Bk.drewN ?_ _) | ((with_reducible refine Bk.far ?_ ?_ _); rotate_left; focus (simp only []; omega)) | ((with_reducible refine Bk.below ?_ (by with_reducible assumption) ?_); rotate_left; focus (go_size; done)))), fun j hj => absurd hj (by omega)⟩
    case round =>
      obtain ⟨n, hk, rfl, hsz, hbel, k0, hno⟩ := hrel
      have HK := Lib.hid hk
      have HNO := Lib.hid hno
      have c00 := k0.cell 0 rfl
      have c01 := k0.cell 1 rfl
      have f00 := k0.frozen 0
      have f01 := k0.frozen 1
      have hn : n ≤ 5 := by omega
      clear hk hno
      (try have : w.heap.size < wr.heap.size := by omega); (try have : w.heap.size + 1 < wr.heap.size := by omega); (try have : w.heap.size + 1 + 1 < wr.heap.size := by omega); (try have : w.heap.size + 1 + 1 + 1 < wr.heap.size := by omega)
      by_cases hlt : n < 5
      · have h0 : (0 : Int) ≤ (n : Int) := by omega
        have h1 : (n : Int) < 5 := by omega
        have hnm := fun W => simple_any n h0 h1 W
        rw [Int.toNat_natCast] at hnm
        have HNM := Lib.hid hnm
        clear hnm
        by_cases hq : simpleS n = l
        · have e1 : (simpleS n == l) = true := by simpa using hq
          have e2 := parse_low HP.out n hlt hq HNO.out
          have HE := Lib.hid e2
          clear e2 hq
          go_wp2_with ((go_at_call 27; with_reducible refine (HNM.out _).mono ?_); rintro _ w2 ⟨rfl, hb2⟩; have hb2s := hb2.size; (try simp only [World.size_alloc, World.size_setCell, World.size_drew, World.heap_drewN] at hb2s); obtain ⟨hb2c, hb2f⟩ := bcell hb2; (try have : w.heap.size < w2.heap.size := by omega); (try have : w.heap.size + 1 < w2.heap.size := by omega); (try have : w.heap.size + 1 + 1 < w2.heap.size := by omega); (try have : w.heap.size + 1 + 1 + 1 < w2.heap.size := by omega))
          refine bodyPost_ret (by simp [results, Tryd.results15, go_sem, *]; try rfl) rfl ?_
          rw [HE.out]
          refine ⟨?_, by (repeat' (first | (with_reducible exact Below.refl _ _) | (with_reducible assumption) | (with_reducible refine Below.drew ?_) | (with_reducible refine below_drewN ?_ _) | ((with_reducible refine Below.alloc ?_ ?_ _); rotate_left; focus (go_size; done)) | ((with_reducible refine Below.setCell ?_ ?_ _); rotate_left; focus (go_size; done)) | ((with_reducible refine Below.trans ?_ (Below.mono (by with_reducible assumption) ?_)); rotate_left; focus (go_size; done))))⟩
          simp [ofR, ofT]
          first | (rw [if_pos (by omega)]; exact ⟨rfl, rfl⟩) | (rw [if_neg (by omega)]; exact ⟨rfl, by omega⟩)
        · have e1 : (simpleS n == l) = false := by simpa using hq
          have HQ := Lib.hid hq
          clear hq
          go_wp2_with ((go_at_call 27; with_reducible refine (HNM.out _).mono ?_); rintro _ w2 ⟨rfl, hb2⟩; have hb2s := hb2.size; (try simp only [World.size_alloc, World.size_setCell, World.size_drew, World.heap_drewN] at hb2s); obtain ⟨hb2c, hb2f⟩ := bcell hb2; (try have : w.heap.size < w2.heap.size := by omega); (try have : w.heap.size + 1 < w2.heap.size := by omega); (try have : w.heap.size + 1 + 1 < w2.heap.size := by omega); (try have : w.heap.size + 1 + 1 + 1 < w2.heap.size := by omega))
          go_roundg (gk - 1)
          case measure => have := HK.out; omega
          case rel =>
            refine ⟨n + 1, by have := HK.out; omega, by go_num, by go_size, by (repeat' (first | (with_reducible exact Below.refl _ _) | (with_reducible assumption) | (with_reducible refine Below.drew ?_) | (with_reducible refine below_drewN ?_ _) | ((with_reducible refine Below.alloc ?_ ?_ _); rotate_left; focus (go_size; done)) | ((with_reducible refine Below.setCell ?_ ?_ _); rotate_left; focus (go_size; done)) | ((with_reducible refine Below.trans ?_ (Below.mono (by with_reducible assumption) ?_)); rotate_left; focus (go_size; done)))), by (repeat (first | (with_reducible assumption) | ((with_reducible refine Bk.new_ ?_); (first | rfl | (simp only [World.size_alloc, World.size_setCell, World.size_drew, World.heap_drewN]; done))) | (with_reducible refine Bk.alloc ?_ _) | (with_reducible refine Bk.drew ?_) | (with_reducible refine Bk.drewN ?_ _) | ((with_reducible refine Bk.far ?_ ?_ _); rotate_left; focus (simp only []; omega)) | ((with_reducible refine Bk.below ?_ (by with_reducible assumption) ?_); rotate_left; focus (go_size; done)))), ?_⟩
            intro j hj
            rcases Nat.lt_or_ge j n with h | h
            · exact HNO.out j h
            · obtain rfl : j = n := by omega
              exact HQ.out
      · obtain rfl : n = 5 := by omega
        have e : parseT l = none := parse_no HP.out HNO.out
        have HE := Lib.hid e
        clear e
        go_wp2
        refine bodyPost_ret (by simp [results, Tryd.results15, go_sem, *]; try rfl) rfl ?_
        rw [HE.out]
        exact ⟨rfl, by (repeat' (first | (with_reducible exact Below.refl _ _) | (with_reducible assumption) | (with_reducible refine Below.drew ?_) | (with_reducible refine below_drewN ?_ _) | ((with_reducible refine Below.alloc ?_ ?_ _); rotate_left; focus (go_size; done)) | ((with_reducible refine Below.setCell ?_ ?_ _); rotate_left; focus (go_size; done)) | ((with_reducible refine Below.trans ?_ (Below.mono (by with_reducible assumption) ?_)); rotate_left; focus (go_size; done))))⟩
  · have HC := Lib.hid (fun W => cutp l W)
    rw [hp] at HC
    have hl2 : (Lib.trimPrefix l listS).length ≤ 9223372036854775807 := Nat.le_trans (trim_len l listS) hl
    have HD := Lib.hid (fun W => cuts (Lib.trimPrefix l listS) hl2 W)
    cases hs : Lib.hasSuffix (Lib.trimPrefix l listS) [62]
    · rw [hs] at HD
      have e : parseT l = none := parse_open hp hs
      have HE := Lib.hid e
      generalize Lib.trimPrefix l listS = p at *
      clear hp hs hl hl2 e
      go_enter Tryd.func15, Tryd.ntmps15
      go_wp2_with (first
        | ((go_at_call 28; with_reducible refine (HC.out _).mono ?_); rintro _ w1 ⟨rfl, hb1⟩; have hb1s := hb1.size; (try simp only [World.size_alloc, World.size_setCell, World.size_drew, World.heap_drewN] at hb1s); obtain ⟨hb1c, hb1f⟩ := bcell hb1; (try have : w.heap.size < w1.heap.size := by omega); (try have : w.heap.size + 1 < w1.heap.size := by omega); (try have : w.heap.size + 1 + 1 < w1.heap.size := by omega); (try have : w.heap.size + 1 + 1 + 1 < w1.heap.size := by omega))
        | ((go_at_call 29; with_reducible refine (HD.out _).mono ?_); rintro _ w2 ⟨rfl, hb2⟩; have hb2s := hb2.size; (try simp only [World.size_alloc, World.size_setCell, World.size_drew, World.heap_drewN] at hb2s); obtain ⟨hb2c, hb2f⟩ := bcell hb2; (try have : w.heap.size < w2.heap.size := by omega); (try have : w.heap.size + 1 < w2.heap.size := by omega); (try have : w.heap.size + 1 + 1 < w2.heap.size := by omega); (try have : w.heap.size + 1 + 1 + 1 < w2.heap.size := by omega)))
      refine bodyPost_ret (by simp [results, Tryd.results15, go_sem, *]; try rfl) rfl ?_
      rw [HE.out]
      exact ⟨rfl, by (repeat' (first | (with_reducible exact Below.refl _ _) | (with_reducible assumption) | (with_reducible refine Below.drew ?_) | (with_reducible refine below_drewN ?_ _) | ((with_reducible refine Below.alloc ?_ ?_ _); rotate_left; focus (go_size; done)) | ((with_reducible refine Below.setCell ?_ ?_ _); rotate_left; focus (go_size; done)) | ((with_reducible refine Below.trans ?_ (Below.mono (by with_reducible assumption) ?_)); rotate_left; focus (go_size; done))))⟩
    · rw [hs] at HD
      have HL := Lib.hid (parse_shape hp hs)
      generalize Lib.trimPrefix l listS = p at *
      generalize Lib.trimSuffix p [62] = q at *
      clear hp hs hl hl2
      go_enter Tryd.func15, Tryd.ntmps15
      go_wp2_with (first
        | ((go_at_call 28; with_reducible refine (HC.out _).mono ?_); rintro _ w1 ⟨rfl, hb1⟩; have hb1s := hb1.size; (try simp only [World.size_alloc, World.size_setCell, World.size_drew, World.heap_drewN] at hb1s); obtain ⟨hb1c, hb1f⟩ := bcell hb1; (try have : w.heap.size < w1.heap.size := by omega); (try have : w.heap.size + 1 < w1.heap.size := by omega); (try have : w.heap.size + 1 + 1 < w1.heap.size := by omega); (try have : w.heap.size + 1 + 1 + 1 < w1.heap.size := by omega))
        | ((go_at_call 29; with_reducible refine (HD.out _).mono ?_); rintro _ w2 ⟨rfl, hb2⟩; have hb2s := hb2.size; (try simp only [World.size_alloc, World.size_setCell, World.size_drew, World.heap_drewN] at hb2s); obtain ⟨hb2c, hb2f⟩ := bcell hb2; (try have : w.heap.size < w2.heap.size := by omega); (try have : w.heap.size + 1 < w2.heap.size := by omega); (try have : w.heap.size + 1 + 1 < w2.heap.size := by omega); (try have : w.heap.size + 1 + 1 + 1 < w2.heap.size := by omega)))
      clear hb1c hb1f hb2c hb2f
      go_loopg [22] 5 (fun k i wr => ∃ n : Nat, k + n = 5 ∧ i = .int .i64 n ∧ w.heap.size + 1 ≤ wr.heap.size ∧ Below w.heap.size w wr ∧
        Bk wr w.heap.size 32 [.int .i64 0, .int .i64 0] ∧ ∀ j, j < n → simpleS j ≠ q)
      case atStart =>
        exact ⟨0, rfl, rfl, by go_size, by (repeat' (first | (with_reducible exact Below.refl _ _) | (with_reducible assumption) | (with_reducible refine Below.drew ?_) | (with_reducible refine below_drewN ?_ _) | ((with_reducible refine Below.alloc ?_ ?_ _); rotate_left; focus (go_size; done)) | ((with_reducible refine Below.setCell ?_ ?_ _); rotate_left; focus (go_size; done)) | ((with_reducible refine Below.trans ?_ (Below.mono (by with_reducible assumption) ?_)); rotate_left; focus (go_size; done)))), by (repeat (first | (with_reducible assumption) | ((with_reducible refine Bk.new_ ?_); (first | rfl | (simp only [World.size_alloc, World.size_setCell, World.size_drew, World.heap_drewN]; done))) | (with_reducible refine Bk.alloc ?_ _) | (with_reducible refine Bk.drew ?_) | (with_reducible refine Bk.drewN ?_ _) | ((with_reducible refine Bk.far ?_ ?_ _); rotate_left; focus (simp only []; omega)) | ((with_reducible refine Bk.below ?_ (by with_reducible assumption) ?_); rotate_left; focus (go_size; done)))), fun j hj => absurd hj (by omega)⟩
      case round =>
        obtain ⟨n, hk, rfl, hsz, hbel, k0, hno⟩ := hrel
        have HK := Lib.hid hk
        have HNO := Lib.hid hno
        have c00 := k0.cell 0 rfl
        have c01 := k0.cell 1 rfl
        have f00 := k0.frozen 0
        have f01 := k0.frozen 1
        have hn : n ≤ 5 := by omega
        clear hk hno
        (try have : w.heap.size < wr.heap.size := by omega); (try have : w.heap.size + 1 < wr.heap.size := by omega); (try have : w.heap.size + 1 + 1 < wr.heap.size := by omega); (try have : w.heap.size + 1 + 1 + 1 < wr.heap.size := by omega)
        by_cases hlt : n < 5
        · have h0 : (0 : Int) ≤ (n : Int) := by omega
          have h1 : (n : Int) < 5 := by omega
          have hnm := fun W => simple_any n h0 h1 W
          rw [Int.toNat_natCast] at hnm
          have HNM := Lib.hid hnm
          clear hnm
          by_cases hq : simpleS n = q
          · have e1 : (simpleS n == q) = true := by simpa using hq
            have e2 := parse_high HL.out n hlt hq HNO.out
            have HE := Lib.hid e2
            clear e2 hq
            go_wp2_with ((go_at_call 27; with_reducible refine (HNM.out _).mono ?_); rintro _ w2 ⟨rfl, hb2⟩; have hb2s := hb2.size; (try simp only [World.size_alloc, World.size_setCell, World.size_drew, World.heap_drewN] at hb2s); obtain ⟨hb2c, hb2f⟩ := bcell hb2; (try have : w.heap.size < w2.heap.size := by omega); (try have : w.heap.size + 1 < w2.heap.size := by omega); (try have : w.heap.size + 1 + 1 < w2.heap.size := by omega); (try have : w.heap.size + 1 + 1 + 1 < w2.heap.size := by omega))
            refine bodyPost_ret (by simp [results, Tryd.results15, go_sem, *]; try rfl) rfl ?_
            rw [HE.out]
            refine ⟨?_, by (repeat' (first | (with_reducible exact Below.refl _ _) | (with_reducible assumption) | (with_reducible refine Below.drew ?_) | (with_reducible refine below_drewN ?_ _) | ((with_reducible refine Below.alloc ?_ ?_ _); rotate_left; focus (go_size; done)) | ((with_reducible refine Below.setCell ?_ ?_ _); rotate_left; focus (go_size; done)) | ((with_reducible refine Below.trans ?_ (Below.mono (by with_reducible assumption) ?_)); rotate_left; focus (go_size; done))))⟩
            simp [ofR, ofT]
            first | (rw [if_pos (by omega)]; exact ⟨rfl, rfl⟩) | (rw [if_neg (by omega)]; exact ⟨rfl, by omega⟩)
          · have e1 : (simpleS n == q) = false := by simpa using hq
            have HQ := Lib.hid hq
            clear hq
            go_wp2_with ((go_at_call 27; with_reducible refine (HNM.out _).mono ?_); rintro _ w2 ⟨rfl, hb2⟩; have hb2s := hb2.size; (try simp only [World.size_alloc, World.size_setCell, World.size_drew, World.heap_drewN] at hb2s); obtain ⟨hb2c, hb2f⟩ := bcell hb2; (try have : w.heap.size < w2.heap.size := by omega); (try have : w.heap.size + 1 < w2.heap.size := by omega); (try have : w.heap.size + 1 + 1 < w2.heap.size := by omega); (try have : w.heap.size + 1 + 1 + 1 < w2.heap.size := by omega))
            go_roundg (gk - 1)
            case measure => have := HK.out; omega
            case rel =>
              refine ⟨n + 1, by have := HK.out; omega, by go_num, by go_size, by (repeat' (first | (with_reducible exact Below.refl _ _) | (with_reducible assumption) | (with_reducible refine Below.drew ?_) | (with_reducible refine below_drewN ?_ _) | ((with_reducible refine Below.alloc ?_ ?_ _); rotate_left; focus (go_size; done)) | ((with_reducible refine Below.setCell ?_ ?_ _); rotate_left; focus (go_size; done)) | ((with_reducible refine Below.trans ?_ (Below.mono (by with_reducible assumption) ?_)); rotate_left; focus (go_size; done)))), by (repeat (first | (with_reducible assumption) | ((with_reducible refine Bk.new_ ?_); (first | rfl | (simp only [World.size_alloc, World.size_setCell, World.size_drew, World.heap_drewN]; done))) | (with_reducible refine Bk.alloc ?_ _) | (with_reducible refine Bk.drew ?_) | (with_reducible refine Bk.drewN ?_ _) | ((with_reducible refine Bk.far ?_ ?_ _); rotate_left; focus (simp only []; omega)) | ((with_reducible refine Bk.below ?_ (by with_reducible assumption) ?_); rotate_left; focus (go_size; done)))), ?_⟩
              intro j hj
              rcases Nat.lt_or_ge j n with h | h
              · exact HNO.out j h
              · obtain rfl : j = n := by omega
                exact HQ.out
        · obtain rfl : n = 5 := by omega
          have e : parseT l = none := parse_high_no HL.out HNO.out
          have HE := Lib.hid e
          clear e
          go_wp2
          refine bodyPost_ret (by simp [results, Tryd.results15, go_sem, *]; try rfl) rfl ?_
          rw [HE.out]
          exact ⟨rfl, by (repeat' (first | (with_reducible exact Below.refl _ _) | (with_reducible assumption) | (with_reducible refine Below.drew ?_) | (with_reducible refine below_drewN ?_ _) | ((with_reducible refine Below.alloc ?_ ?_ _); rotate_left; focus (go_size; done)) | ((with_reducible refine Below.setCell ?_ ?_ _); rotate_left; focus (go_size; done)) | ((with_reducible refine Below.trans ?_ (Below.mono (by with_reducible assumption) ?_)); rotate_left; focus (go_size; done))))⟩

set_option maxHeartbeats 400000 in
theorem known_any (w : World) : Calls Tryd.prog 5 #[] w fun e w' => e = .returned (.bool true) ∧ Below w.heap.size w w' := by
  have hn := fun W => kname_any 5 2 W
  have e1 : nameT 5 2 = [108, 105, 115, 116, 60, 110, 117, 109, 98, 101, 114, 62] := rfl
  have e2 : errT 5 2 = 0 := rfl
  rw [e1, e2] at hn
  have hp := fun W => parse_any [108, 105, 115, 116, 60, 110, 117, 109, 98, 101, 114, 62] (by decide) W
  have e3 : ofR (parseT [108, 105, 115, 116, 60, 110, 117, 109, 98, 101, 114, 62]) = (5, 2, 0) := by decide
  rw [e3] at hp
  have HN := Lib.hid hn
  have HP := Lib.hid hp
  clear hn hp e1 e2 e3
  go_enter Tryd.func5, Tryd.ntmps5
  go_wp2_with (first
    | ((go_at_call 14; with_reducible refine (HN.out _).mono ?_); rintro _ w1 ⟨rfl, hb1⟩; have hb1s := hb1.size; (try simp only [World.size_alloc, World.size_setCell, World.size_drew, World.heap_drewN] at hb1s); obtain ⟨hb1c, hb1f⟩ := bcell hb1; (try have : w.heap.size < w1.heap.size := by omega); (try have : w.heap.size + 1 < w1.heap.size := by omega); (try have : w.heap.size + 1 + 1 < w1.heap.size := by omega); (try have : w.heap.size + 1 + 1 + 1 < w1.heap.size := by omega))
    | ((go_at_call 15; with_reducible refine (HP.out _).mono ?_); rintro _ w2 ⟨rfl, hb2⟩; have hb2s := hb2.size; (try simp only [World.size_alloc, World.size_setCell, World.size_drew, World.heap_drewN] at hb2s); obtain ⟨hb2c, hb2f⟩ := bcell hb2; (try have : w.heap.size < w2.heap.size := by omega); (try have : w.heap.size + 1 < w2.heap.size := by omega); (try have : w.heap.size + 1 + 1 < w2.heap.size := by omega); (try have : w.heap.size + 1 + 1 + 1 < w2.heap.size := by omega)))
  go_ret
  exact ⟨rfl, by (repeat' (first | (with_reducible exact Below.refl _ _) | (with_reducible assumption) | (with_reducible refine Below.drew ?_) | (with_reducible refine below_drewN ?_ _) | ((with_reducible refine Below.alloc ?_ ?_ _); rotate_left; focus (go_size; done)) | ((with_reducible refine Below.setCell ?_ ?_ _); rotate_left; focus (go_size; done)) | ((with_reducible refine Below.trans ?_ (Below.mono (by with_reducible assumption) ?_)); rotate_left; focus (go_size; done))))⟩

def underR (a b c d : Int) : Bool := formB a b && formB c d && underB a b c d
def err2 (a b c d : Int) : Int := if formB a b = true ∧ formB c d = true then 0 else 2
def joinR (a b c d : Int) : Int × Int := if formB a b = true ∧ formB c d = true then joinP (a, b) (c, d) else (0, 0)
set_option maxHeartbeats 400000 in
theorem punder_any (a b c d : Int) (w : World) : Calls Tryd.prog 13 #[.agg #[.int .i64 a, .int .i64 b], .agg #[.int .i64 c, .int .i64 d]] w fun e w' => e = .returned (.tuple #[.bool (underR a b c d), .int .i64 (err2 a b c d)]) ∧ Below w.heap.size w w' := by
  cases h1 : formB a b
  · have e1 : underR a b c d = false := by simp [underR, h1]
    have e2 : err2 a b c d = 2 := by simp [err2, h1]
    rw [e1, e2]
    clear e1 e2
    go_enter Tryd.func13, Tryd.ntmps13
    go_wp2_with ((go_at_call 20; with_reducible refine (kform_any _ _ _).mono ?_); rintro _ w1 ⟨rfl, hb1⟩; have hb1s := hb1.size; (try simp only [World.size_alloc, World.size_setCell, World.size_drew, World.heap_drewN] at hb1s); obtain ⟨hb1c, hb1f⟩ := bcell hb1; (try have : w.heap.size < w1.heap.size := by omega); (try have : w.heap.size + 1 < w1.heap.size := by omega); (try have : w.heap.size + 1 + 1 < w1.heap.size := by omega); (try have : w.heap.size + 1 + 1 + 1 < w1.heap.size := by omega))
    go_ret2
    exact ⟨rfl, by (repeat' (first | (with_reducible exact Below.refl _ _) | (with_reducible assumption) | (with_reducible refine Below.drew ?_) | (with_reducible refine below_drewN ?_ _) | ((with_reducible refine Below.alloc ?_ ?_ _); rotate_left; focus (go_size; done)) | ((with_reducible refine Below.setCell ?_ ?_ _); rotate_left; focus (go_size; done)) | ((with_reducible refine Below.trans ?_ (Below.mono (by with_reducible assumption) ?_)); rotate_left; focus (go_size; done))))⟩
  · cases h2 : formB c d
    · have e1 : underR a b c d = false := by simp [underR, h2]
      have e2 : err2 a b c d = 2 := by simp [err2, h2]
      rw [e1, e2]
      clear e1 e2
      go_enter Tryd.func13, Tryd.ntmps13
      go_wp2_with ((go_at_call 20; with_reducible refine (kform_any _ _ _).mono ?_); rintro _ w1 ⟨rfl, hb1⟩; have hb1s := hb1.size; (try simp only [World.size_alloc, World.size_setCell, World.size_drew, World.heap_drewN] at hb1s); obtain ⟨hb1c, hb1f⟩ := bcell hb1; (try have : w.heap.size < w1.heap.size := by omega); (try have : w.heap.size + 1 < w1.heap.size := by omega); (try have : w.heap.size + 1 + 1 < w1.heap.size := by omega); (try have : w.heap.size + 1 + 1 + 1 < w1.heap.size := by omega))
      go_ret2
      exact ⟨rfl, by (repeat' (first | (with_reducible exact Below.refl _ _) | (with_reducible assumption) | (with_reducible refine Below.drew ?_) | (with_reducible refine below_drewN ?_ _) | ((with_reducible refine Below.alloc ?_ ?_ _); rotate_left; focus (go_size; done)) | ((with_reducible refine Below.setCell ?_ ?_ _); rotate_left; focus (go_size; done)) | ((with_reducible refine Below.trans ?_ (Below.mono (by with_reducible assumption) ?_)); rotate_left; focus (go_size; done))))⟩
    · have e1 : underR a b c d = underB a b c d := by simp [underR, h1, h2]
      have e2 : err2 a b c d = 0 := by simp [err2, h1, h2]
      rw [e1, e2]
      clear e1 e2
      go_enter Tryd.func13, Tryd.ntmps13
      go_wp2_with (first
        | ((go_at_call 20; with_reducible refine (kform_any _ _ _).mono ?_); rintro _ w1 ⟨rfl, hb1⟩; have hb1s := hb1.size; (try simp only [World.size_alloc, World.size_setCell, World.size_drew, World.heap_drewN] at hb1s); obtain ⟨hb1c, hb1f⟩ := bcell hb1; (try have : w.heap.size < w1.heap.size := by omega); (try have : w.heap.size + 1 < w1.heap.size := by omega); (try have : w.heap.size + 1 + 1 < w1.heap.size := by omega); (try have : w.heap.size + 1 + 1 + 1 < w1.heap.size := by omega))
        | ((go_at_call 26; with_reducible refine (under_any _ _ _ _ _).mono ?_); rintro _ w2 ⟨rfl, hb2⟩; have hb2s := hb2.size; (try simp only [World.size_alloc, World.size_setCell, World.size_drew, World.heap_drewN] at hb2s); obtain ⟨hb2c, hb2f⟩ := bcell hb2; (try have : w.heap.size < w2.heap.size := by omega); (try have : w.heap.size + 1 < w2.heap.size := by omega); (try have : w.heap.size + 1 + 1 < w2.heap.size := by omega); (try have : w.heap.size + 1 + 1 + 1 < w2.heap.size := by omega)))
      go_ret2
      exact ⟨rfl, by (repeat' (first | (with_reducible exact Below.refl _ _) | (with_reducible assumption) | (with_reducible refine Below.drew ?_) | (with_reducible refine below_drewN ?_ _) | ((with_reducible refine Below.alloc ?_ ?_ _); rotate_left; focus (go_size; done)) | ((with_reducible refine Below.setCell ?_ ?_ _); rotate_left; focus (go_size; done)) | ((with_reducible refine Below.trans ?_ (Below.mono (by with_reducible assumption) ?_)); rotate_left; focus (go_size; done))))⟩
set_option maxHeartbeats 1000000 in
theorem pjoin_any (a b c d : Int) (w : World) : Calls Tryd.prog 12 #[.agg #[.int .i64 a, .int .i64 b], .agg #[.int .i64 c, .int .i64 d]] w fun e w' => e = .returned (.tuple #[.agg #[.int .i64 (joinR a b c d).1, .int .i64 (joinR a b c d).2], .int .i64 (err2 a b c d)]) ∧ Below w.heap.size w w' := by
  cases h1 : formB a b
  · have e1 : joinR a b c d = (0, 0) := by simp [joinR, h1]
    have e2 : err2 a b c d = 2 := by simp [err2, h1]
    rw [e1, e2]
    clear e1 e2
    go_enter Tryd.func12, Tryd.ntmps12
    go_wp2_with ((go_at_call 20; with_reducible refine (kform_any _ _ _).mono ?_); rintro _ w1 ⟨rfl, hb1⟩; have hb1s := hb1.size; (try simp only [World.size_alloc, World.size_setCell, World.size_drew, World.heap_drewN] at hb1s); obtain ⟨hb1c, hb1f⟩ := bcell hb1; (try have : w.heap.size < w1.heap.size := by omega); (try have : w.heap.size + 1 < w1.heap.size := by omega); (try have : w.heap.size + 1 + 1 < w1.heap.size := by omega); (try have : w.heap.size + 1 + 1 + 1 < w1.heap.size := by omega))
    refine bodyPost_ret (by simp [results, Tryd.results12, go_sem, *]; try rfl) rfl ?_
    exact ⟨rfl, by (repeat' (first | (with_reducible exact Below.refl _ _) | (with_reducible assumption) | (with_reducible refine Below.drew ?_) | (with_reducible refine below_drewN ?_ _) | ((with_reducible refine Below.alloc ?_ ?_ _); rotate_left; focus (go_size; done)) | ((with_reducible refine Below.setCell ?_ ?_ _); rotate_left; focus (go_size; done)) | ((with_reducible refine Below.trans ?_ (Below.mono (by with_reducible assumption) ?_)); rotate_left; focus (go_size; done))))⟩
  · cases h2 : formB c d
    · have e1 : joinR a b c d = (0, 0) := by simp [joinR, h2]
      have e2 : err2 a b c d = 2 := by simp [err2, h2]
      rw [e1, e2]
      clear e1 e2
      go_enter Tryd.func12, Tryd.ntmps12
      go_wp2_with ((go_at_call 20; with_reducible refine (kform_any _ _ _).mono ?_); rintro _ w1 ⟨rfl, hb1⟩; have hb1s := hb1.size; (try simp only [World.size_alloc, World.size_setCell, World.size_drew, World.heap_drewN] at hb1s); obtain ⟨hb1c, hb1f⟩ := bcell hb1; (try have : w.heap.size < w1.heap.size := by omega); (try have : w.heap.size + 1 < w1.heap.size := by omega); (try have : w.heap.size + 1 + 1 < w1.heap.size := by omega); (try have : w.heap.size + 1 + 1 + 1 < w1.heap.size := by omega))
      refine bodyPost_ret (by simp [results, Tryd.results12, go_sem, *]; try rfl) rfl ?_
      exact ⟨rfl, by (repeat' (first | (with_reducible exact Below.refl _ _) | (with_reducible assumption) | (with_reducible refine Below.drew ?_) | (with_reducible refine below_drewN ?_ _) | ((with_reducible refine Below.alloc ?_ ?_ _); rotate_left; focus (go_size; done)) | ((with_reducible refine Below.setCell ?_ ?_ _); rotate_left; focus (go_size; done)) | ((with_reducible refine Below.trans ?_ (Below.mono (by with_reducible assumption) ?_)); rotate_left; focus (go_size; done))))⟩
    · have e2 : err2 a b c d = 0 := by simp [err2, h1, h2]
      have e1 : joinR a b c d = joinP (a, b) (c, d) := by simp [joinR, h1, h2]
      rw [e1, e2]
      unfold joinP
      dsimp only
      clear e1 e2
      cases h3 : underB a b c d
      · cases h4 : underB c d a b
        · by_cases h5 : a = 5 ∧ c = 5
          · rw [if_neg (by simp), if_neg (by simp), if_pos h5]
            have g1 : (a == 5) = true := by simp [h5.1]
            have g2 : (c == 5) = true := by simp [h5.2]
            have H5 := Lib.hid h5
            clear h5
            go_enter Tryd.func12, Tryd.ntmps12
            go_wp2_with (first
              | ((go_at_call 20; with_reducible refine (kform_any _ _ _).mono ?_); rintro _ w1 ⟨rfl, hb1⟩; have hb1s := hb1.size; (try simp only [World.size_alloc, World.size_setCell, World.size_drew, World.heap_drewN] at hb1s); obtain ⟨hb1c, hb1f⟩ := bcell hb1; (try have : w.heap.size < w1.heap.size := by omega); (try have : w.heap.size + 1 < w1.heap.size := by omega); (try have : w.heap.size + 1 + 1 < w1.heap.size := by omega); (try have : w.heap.size + 1 + 1 + 1 < w1.heap.size := by omega))
              | ((go_at_call 26; with_reducible refine (under_any _ _ _ _ _).mono ?_); rintro _ w2 ⟨rfl, hb2⟩; have hb2s := hb2.size; (try simp only [World.size_alloc, World.size_setCell, World.size_drew, World.heap_drewN] at hb2s); obtain ⟨hb2c, hb2f⟩ := bcell hb2; (try have : w.heap.size < w2.heap.size := by omega); (try have : w.heap.size + 1 < w2.heap.size := by omega); (try have : w.heap.size + 1 + 1 < w2.heap.size := by omega); (try have : w.heap.size + 1 + 1 + 1 < w2.heap.size := by omega)))
            refine bodyPost_ret (by simp [results, Tryd.results12, go_sem, *]; try rfl) rfl ?_
            exact ⟨rfl, by (repeat' (first | (with_reducible exact Below.refl _ _) | (with_reducible assumption) | (with_reducible refine Below.drew ?_) | (with_reducible refine below_drewN ?_ _) | ((with_reducible refine Below.alloc ?_ ?_ _); rotate_left; focus (go_size; done)) | ((with_reducible refine Below.setCell ?_ ?_ _); rotate_left; focus (go_size; done)) | ((with_reducible refine Below.trans ?_ (Below.mono (by with_reducible assumption) ?_)); rotate_left; focus (go_size; done))))⟩
          · rw [if_neg (by simp), if_neg (by simp), if_neg h5]
            have H5 := Lib.hid h5
            clear h5
            go_enter Tryd.func12, Tryd.ntmps12
            go_wp2_with (first
              | ((go_at_call 20; with_reducible refine (kform_any _ _ _).mono ?_); rintro _ w1 ⟨rfl, hb1⟩; have hb1s := hb1.size; (try simp only [World.size_alloc, World.size_setCell, World.size_drew, World.heap_drewN] at hb1s); obtain ⟨hb1c, hb1f⟩ := bcell hb1; (try have : w.heap.size < w1.heap.size := by omega); (try have : w.heap.size + 1 < w1.heap.size := by omega); (try have : w.heap.size + 1 + 1 < w1.heap.size := by omega); (try have : w.heap.size + 1 + 1 + 1 < w1.heap.size := by omega))
              | ((go_at_call 26; with_reducible refine (under_any _ _ _ _ _).mono ?_); rintro _ w2 ⟨rfl, hb2⟩; have hb2s := hb2.size; (try simp only [World.size_alloc, World.size_setCell, World.size_drew, World.heap_drewN] at hb2s); obtain ⟨hb2c, hb2f⟩ := bcell hb2; (try have : w.heap.size < w2.heap.size := by omega); (try have : w.heap.size + 1 < w2.heap.size := by omega); (try have : w.heap.size + 1 + 1 < w2.heap.size := by omega); (try have : w.heap.size + 1 + 1 + 1 < w2.heap.size := by omega)))
            all_goals first
              | (exfalso; have := H5.out; simp_all; done)
              | (refine bodyPost_ret (by simp [results, Tryd.results12, go_sem, *]; try rfl) rfl ?_
                 exact ⟨rfl, by (repeat' (first | (with_reducible exact Below.refl _ _) | (with_reducible assumption) | (with_reducible refine Below.drew ?_) | (with_reducible refine below_drewN ?_ _) | ((with_reducible refine Below.alloc ?_ ?_ _); rotate_left; focus (go_size; done)) | ((with_reducible refine Below.setCell ?_ ?_ _); rotate_left; focus (go_size; done)) | ((with_reducible refine Below.trans ?_ (Below.mono (by with_reducible assumption) ?_)); rotate_left; focus (go_size; done))))⟩)
        · rw [if_neg (by simp), if_pos rfl]
          go_enter Tryd.func12, Tryd.ntmps12
          go_wp2_with (first
            | ((go_at_call 20; with_reducible refine (kform_any _ _ _).mono ?_); rintro _ w1 ⟨rfl, hb1⟩; have hb1s := hb1.size; (try simp only [World.size_alloc, World.size_setCell, World.size_drew, World.heap_drewN] at hb1s); obtain ⟨hb1c, hb1f⟩ := bcell hb1; (try have : w.heap.size < w1.heap.size := by omega); (try have : w.heap.size + 1 < w1.heap.size := by omega); (try have : w.heap.size + 1 + 1 < w1.heap.size := by omega); (try have : w.heap.size + 1 + 1 + 1 < w1.heap.size := by omega))
            | ((go_at_call 26; with_reducible refine (under_any _ _ _ _ _).mono ?_); rintro _ w2 ⟨rfl, hb2⟩; have hb2s := hb2.size; (try simp only [World.size_alloc, World.size_setCell, World.size_drew, World.heap_drewN] at hb2s); obtain ⟨hb2c, hb2f⟩ := bcell hb2; (try have : w.heap.size < w2.heap.size := by omega); (try have : w.heap.size + 1 < w2.heap.size := by omega); (try have : w.heap.size + 1 + 1 < w2.heap.size := by omega); (try have : w.heap.size + 1 + 1 + 1 < w2.heap.size := by omega)))
          refine bodyPost_ret (by simp [results, Tryd.results12, go_sem, *]; try rfl) rfl ?_
          exact ⟨rfl, by (repeat' (first | (with_reducible exact Below.refl _ _) | (with_reducible assumption) | (with_reducible refine Below.drew ?_) | (with_reducible refine below_drewN ?_ _) | ((with_reducible refine Below.alloc ?_ ?_ _); rotate_left; focus (go_size; done)) | ((with_reducible refine Below.setCell ?_ ?_ _); rotate_left; focus (go_size; done)) | ((with_reducible refine Below.trans ?_ (Below.mono (by with_reducible assumption) ?_)); rotate_left; focus (go_size; done))))⟩
      · rw [if_pos rfl]
        go_enter Tryd.func12, Tryd.ntmps12
        go_wp2_with (first
          | ((go_at_call 20; with_reducible refine (kform_any _ _ _).mono ?_); rintro _ w1 ⟨rfl, hb1⟩; have hb1s := hb1.size; (try simp only [World.size_alloc, World.size_setCell, World.size_drew, World.heap_drewN] at hb1s); obtain ⟨hb1c, hb1f⟩ := bcell hb1; (try have : w.heap.size < w1.heap.size := by omega); (try have : w.heap.size + 1 < w1.heap.size := by omega); (try have : w.heap.size + 1 + 1 < w1.heap.size := by omega); (try have : w.heap.size + 1 + 1 + 1 < w1.heap.size := by omega))
          | ((go_at_call 26; with_reducible refine (under_any _ _ _ _ _).mono ?_); rintro _ w2 ⟨rfl, hb2⟩; have hb2s := hb2.size; (try simp only [World.size_alloc, World.size_setCell, World.size_drew, World.heap_drewN] at hb2s); obtain ⟨hb2c, hb2f⟩ := bcell hb2; (try have : w.heap.size < w2.heap.size := by omega); (try have : w.heap.size + 1 < w2.heap.size := by omega); (try have : w.heap.size + 1 + 1 < w2.heap.size := by omega); (try have : w.heap.size + 1 + 1 + 1 < w2.heap.size := by omega)))
        refine bodyPost_ret (by simp [results, Tryd.results12, go_sem, *]; try rfl) rfl ?_
        exact ⟨rfl, by (repeat' (first | (with_reducible exact Below.refl _ _) | (with_reducible assumption) | (with_reducible refine Below.drew ?_) | (with_reducible refine below_drewN ?_ _) | ((with_reducible refine Below.alloc ?_ ?_ _); rotate_left; focus (go_size; done)) | ((with_reducible refine Below.setCell ?_ ?_ _); rotate_left; focus (go_size; done)) | ((with_reducible refine Below.trans ?_ (Below.mono (by with_reducible assumption) ?_)); rotate_left; focus (go_size; done))))⟩
end Go.Proofs.YtanjbdhjnmmfdaaDoor

set_option linter.unusedSimpArgs false
set_option linter.unusedVariables false
namespace Go.Proofs.YtanjbdhjnmmfdaaDoor
open Go.RowKit

theorem ofC_zero {d : VD} (h : (ofC d).2 = 0) : chkV d = 0 := by
  unfold ofC at h
  split at h
  · assumption
  · exact h
theorem fitsC_own {d : VD} (h : (ofC d).2 = 0) : fitsC d (ofC d).1.1 (ofC d).1.2 = (true, 0) := by
  have h0 := ofC_zero h
  have e : ofC d = (ofV d.s.kind d.list, 0) := if_pos h0
  rw [e]
  unfold fitsC
  dsimp only
  rw [if_neg (by rw [h0]; simp), if_pos (of_form h0), fits_own h0]
set_option maxRecDepth 100000 in
set_option maxHeartbeats 2000000 in
theorem walk_fits (d : VD) (A : Option Addr) (C : Nat) (A2 : Option Addr) (C2 : Nat) (tk tf : Int) (w : World) (hT : Tabs w) (h : VA w d A C A2 C2) (hsz : d.size ≤ 1048576) :
    Calls Tryd.prog 3 #[vargs d A C A2 C2, .agg #[.int .i64 tk, .int .i64 tf]] w fun e w' => e = .returned (.bool true) ∧ Below w.heap.size w w' := by
  have h1 := fun (W : World) (hW : Below w.heap.size w W) => rdocof_any d A C A2 C2 W (h.below hW) hsz
  have h2 := fun (W : World) (hW : Below w.heap.size w W) => pof_any d A C A2 C2 W (tabs_below hT hW) (h.below hW)
  have h3 := fun (W : World) (hW : Below w.heap.size w W) => rdocfits_any d A C A2 C2 tk tf W (h.below hW) hsz
  have h4 := fun (W : World) (hW : Below w.heap.size w W) => pfits_any d A C A2 C2 tk tf W (tabs_below hT hW) (h.below hW)
  have h5 := fun (W : World) (hW : Below w.heap.size w W) => pfits_any d A C A2 C2 (ofC d).1.1 (ofC d).1.2 W (tabs_below hT hW) (h.below hW)
  have hown := fitsC_own (d := d)
  obtain ⟨T, hTT⟩ : ∃ T, T = ofC d := ⟨_, rfl⟩
  obtain ⟨F, hF⟩ : ∃ F, F = fitsC d tk tf := ⟨_, rfl⟩
  simp only [← hTT] at h1 h2 h5 hown
  simp only [← hF] at h3 h4
  obtain ⟨G, hG⟩ : ∃ G, G = fitsC d T.1.1 T.1.2 := ⟨_, rfl⟩
  simp only [← hG] at h5 hown
  obtain ⟨⟨t1, t2⟩, te⟩ := T
  obtain ⟨f1, f2⟩ := F
  obtain ⟨s, l, nm⟩ := d
  obtain ⟨kind, yes, neg, coef, sc, text, day⟩ := s
  unfold vargs vagg
  unfold vargs vagg at h1 h2 h3 h4 h5
  dsimp only [VD.s, VD.list, VD.names] at h1 h2 h3 h4 h5 hown ⊢
  have H1 := Lib.hid h1
  have H2 := Lib.hid h2
  have H3 := Lib.hid h3
  have H4 := Lib.hid h4
  have H5 := Lib.hid h5
  have HO := Lib.hid hown
  clear h1 h2 h3 h4 h5 hown hTT hF hG h hT hsz
  by_cases h0 : te = 0
  · subst h0
    obtain rfl : G = (true, 0) := HO.out rfl
    dsimp only at H5
    clear HO
    go_enter Tryd.func3, Tryd.ntmps3
    go_wp2_with (first | ((go_at_call 5; with_reducible refine (known_any _).mono ?_); rintro _ w1 ⟨rfl, hb1⟩; have hb1s := hb1.size; (try simp only [World.size_alloc, World.size_setCell, World.size_drew, World.heap_drewN] at hb1s); obtain ⟨hb1c, hb1f⟩ := bcell hb1; (try have : w.heap.size < w1.heap.size := by omega); (try have : w.heap.size + 1 < w1.heap.size := by omega); (try have : w.heap.size + 1 + 1 < w1.heap.size := by omega); (try have : w.heap.size + 1 + 1 + 1 < w1.heap.size := by omega)) | ((go_at_call 6; with_reducible refine (H1.out _ (by (repeat' (first | (with_reducible exact Below.refl _ _) | (with_reducible assumption) | (with_reducible refine Below.drew ?_) | (with_reducible refine below_drewN ?_ _) | ((with_reducible refine Below.alloc ?_ ?_ _); rotate_left; focus (go_size; done)) | ((with_reducible refine Below.setCell ?_ ?_ _); rotate_left; focus (go_size; done)) | ((with_reducible refine Below.trans ?_ (Below.mono (by with_reducible assumption) ?_)); rotate_left; focus (go_size; done)))))).mono ?_); rintro _ w2 ⟨rfl, hb2⟩; have hb2s := hb2.size; (try simp only [World.size_alloc, World.size_setCell, World.size_drew, World.heap_drewN] at hb2s); obtain ⟨hb2c, hb2f⟩ := bcell hb2; (try have : w.heap.size < w2.heap.size := by omega); (try have : w.heap.size + 1 < w2.heap.size := by omega); (try have : w.heap.size + 1 + 1 < w2.heap.size := by omega); (try have : w.heap.size + 1 + 1 + 1 < w2.heap.size := by omega); (try have : w1.heap.size < w2.heap.size := by omega); (try have : w1.heap.size + 1 < w2.heap.size := by omega); (try have : w1.heap.size + 1 + 1 < w2.heap.size := by omega); (try have : w1.heap.size + 1 + 1 + 1 < w2.heap.size := by omega)) | ((go_at_call 7; with_reducible refine (H2.out _ (by (repeat' (first | (with_reducible exact Below.refl _ _) | (with_reducible assumption) | (with_reducible refine Below.drew ?_) | (with_reducible refine below_drewN ?_ _) | ((with_reducible refine Below.alloc ?_ ?_ _); rotate_left; focus (go_size; done)) | ((with_reducible refine Below.setCell ?_ ?_ _); rotate_left; focus (go_size; done)) | ((with_reducible refine Below.trans ?_ (Below.mono (by with_reducible assumption) ?_)); rotate_left; focus (go_size; done)))))).mono ?_); rintro _ w3 ⟨rfl, hb3⟩; have hb3s := hb3.size; (try simp only [World.size_alloc, World.size_setCell, World.size_drew, World.heap_drewN] at hb3s); obtain ⟨hb3c, hb3f⟩ := bcell hb3; (try have : w.heap.size < w3.heap.size := by omega); (try have : w.heap.size + 1 < w3.heap.size := by omega); (try have : w.heap.size + 1 + 1 < w3.heap.size := by omega); (try have : w.heap.size + 1 + 1 + 1 < w3.heap.size := by omega); (try have : w1.heap.size < w3.heap.size := by omega); (try have : w1.heap.size + 1 < w3.heap.size := by omega); (try have : w1.heap.size + 1 + 1 < w3.heap.size := by omega); (try have : w1.heap.size + 1 + 1 + 1 < w3.heap.size := by omega); (try have : w2.heap.size < w3.heap.size := by omega); (try have : w2.heap.size + 1 < w3.heap.size := by omega); (try have : w2.heap.size + 1 + 1 < w3.heap.size := by omega); (try have : w2.heap.size + 1 + 1 + 1 < w3.heap.size := by omega)) | ((go_at_call 8; with_reducible refine (H3.out _ (by (repeat' (first | (with_reducible exact Below.refl _ _) | (with_reducible assumption) | (with_reducible refine Below.drew ?_) | (with_reducible refine below_drewN ?_ _) | ((with_reducible refine Below.alloc ?_ ?_ _); rotate_left; focus (go_size; done)) | ((with_reducible refine Below.setCell ?_ ?_ _); rotate_left; focus (go_size; done)) | ((with_reducible refine Below.trans ?_ (Below.mono (by with_reducible assumption) ?_)); rotate_left; focus (go_size; done)))))).mono ?_); rintro _ w4 ⟨rfl, hb4⟩; have hb4s := hb4.size; (try simp only [World.size_alloc, World.size_setCell, World.size_drew, World.heap_drewN] at hb4s); obtain ⟨hb4c, hb4f⟩ := bcell hb4; (try have : w.heap.size < w4.heap.size := by omega); (try have : w.heap.size + 1 < w4.heap.size := by omega); (try have : w.heap.size + 1 + 1 < w4.heap.size := by omega); (try have : w.heap.size + 1 + 1 + 1 < w4.heap.size := by omega); (try have : w1.heap.size < w4.heap.size := by omega); (try have : w1.heap.size + 1 < w4.heap.size := by omega); (try have : w1.heap.size + 1 + 1 < w4.heap.size := by omega); (try have : w1.heap.size + 1 + 1 + 1 < w4.heap.size := by omega); (try have : w2.heap.size < w4.heap.size := by omega); (try have : w2.heap.size + 1 < w4.heap.size := by omega); (try have : w2.heap.size + 1 + 1 < w4.heap.size := by omega); (try have : w2.heap.size + 1 + 1 + 1 < w4.heap.size := by omega); (try have : w3.heap.size < w4.heap.size := by omega); (try have : w3.heap.size + 1 < w4.heap.size := by omega); (try have : w3.heap.size + 1 + 1 < w4.heap.size := by omega); (try have : w3.heap.size + 1 + 1 + 1 < w4.heap.size := by omega)) | ((go_at_call 9; with_reducible refine (H4.out _ (by (repeat' (first | (with_reducible exact Below.refl _ _) | (with_reducible assumption) | (with_reducible refine Below.drew ?_) | (with_reducible refine below_drewN ?_ _) | ((with_reducible refine Below.alloc ?_ ?_ _); rotate_left; focus (go_size; done)) | ((with_reducible refine Below.setCell ?_ ?_ _); rotate_left; focus (go_size; done)) | ((with_reducible refine Below.trans ?_ (Below.mono (by with_reducible assumption) ?_)); rotate_left; focus (go_size; done)))))).mono ?_); rintro _ w5 ⟨rfl, hb5⟩; have hb5s := hb5.size; (try simp only [World.size_alloc, World.size_setCell, World.size_drew, World.heap_drewN] at hb5s); obtain ⟨hb5c, hb5f⟩ := bcell hb5; (try have : w.heap.size < w5.heap.size := by omega); (try have : w.heap.size + 1 < w5.heap.size := by omega); (try have : w.heap.size + 1 + 1 < w5.heap.size := by omega); (try have : w.heap.size + 1 + 1 + 1 < w5.heap.size := by omega); (try have : w1.heap.size < w5.heap.size := by omega); (try have : w1.heap.size + 1 < w5.heap.size := by omega); (try have : w1.heap.size + 1 + 1 < w5.heap.size := by omega); (try have : w1.heap.size + 1 + 1 + 1 < w5.heap.size := by omega); (try have : w2.heap.size < w5.heap.size := by omega); (try have : w2.heap.size + 1 < w5.heap.size := by omega); (try have : w2.heap.size + 1 + 1 < w5.heap.size := by omega); (try have : w2.heap.size + 1 + 1 + 1 < w5.heap.size := by omega); (try have : w3.heap.size < w5.heap.size := by omega); (try have : w3.heap.size + 1 < w5.heap.size := by omega); (try have : w3.heap.size + 1 + 1 < w5.heap.size := by omega); (try have : w3.heap.size + 1 + 1 + 1 < w5.heap.size := by omega); (try have : w4.heap.size < w5.heap.size := by omega); (try have : w4.heap.size + 1 < w5.heap.size := by omega); (try have : w4.heap.size + 1 + 1 < w5.heap.size := by omega); (try have : w4.heap.size + 1 + 1 + 1 < w5.heap.size := by omega)) | ((go_at_call 9; with_reducible refine (H5.out _ (by (repeat' (first | (with_reducible exact Below.refl _ _) | (with_reducible assumption) | (with_reducible refine Below.drew ?_) | (with_reducible refine below_drewN ?_ _) | ((with_reducible refine Below.alloc ?_ ?_ _); rotate_left; focus (go_size; done)) | ((with_reducible refine Below.setCell ?_ ?_ _); rotate_left; focus (go_size; done)) | ((with_reducible refine Below.trans ?_ (Below.mono (by with_reducible assumption) ?_)); rotate_left; focus (go_size; done)))))).mono ?_); rintro _ w6 ⟨rfl, hb6⟩; have hb6s := hb6.size; (try simp only [World.size_alloc, World.size_setCell, World.size_drew, World.heap_drewN] at hb6s); obtain ⟨hb6c, hb6f⟩ := bcell hb6; (try have : w.heap.size < w6.heap.size := by omega); (try have : w.heap.size + 1 < w6.heap.size := by omega); (try have : w.heap.size + 1 + 1 < w6.heap.size := by omega); (try have : w.heap.size + 1 + 1 + 1 < w6.heap.size := by omega); (try have : w1.heap.size < w6.heap.size := by omega); (try have : w1.heap.size + 1 < w6.heap.size := by omega); (try have : w1.heap.size + 1 + 1 < w6.heap.size := by omega); (try have : w1.heap.size + 1 + 1 + 1 < w6.heap.size := by omega); (try have : w2.heap.size < w6.heap.size := by omega); (try have : w2.heap.size + 1 < w6.heap.size := by omega); (try have : w2.heap.size + 1 + 1 < w6.heap.size := by omega); (try have : w2.heap.size + 1 + 1 + 1 < w6.heap.size := by omega); (try have : w3.heap.size < w6.heap.size := by omega); (try have : w3.heap.size + 1 < w6.heap.size := by omega); (try have : w3.heap.size + 1 + 1 < w6.heap.size := by omega); (try have : w3.heap.size + 1 + 1 + 1 < w6.heap.size := by omega); (try have : w4.heap.size < w6.heap.size := by omega); (try have : w4.heap.size + 1 < w6.heap.size := by omega); (try have : w4.heap.size + 1 + 1 < w6.heap.size := by omega); (try have : w4.heap.size + 1 + 1 + 1 < w6.heap.size := by omega); (try have : w5.heap.size < w6.heap.size := by omega); (try have : w5.heap.size + 1 < w6.heap.size := by omega); (try have : w5.heap.size + 1 + 1 < w6.heap.size := by omega); (try have : w5.heap.size + 1 + 1 + 1 < w6.heap.size := by omega)))
    go_ret
    exact ⟨rfl, by (repeat' (first | (with_reducible exact Below.refl _ _) | (with_reducible assumption) | (with_reducible refine Below.drew ?_) | (with_reducible refine below_drewN ?_ _) | ((with_reducible refine Below.alloc ?_ ?_ _); rotate_left; focus (go_size; done)) | ((with_reducible refine Below.setCell ?_ ?_ _); rotate_left; focus (go_size; done)) | ((with_reducible refine Below.trans ?_ (Below.mono (by with_reducible assumption) ?_)); rotate_left; focus (go_size; done))))⟩
  · have e0 : (te != 0) = true := by rw [bne_iff_ne]; exact h0
    clear HO h0 H5
    go_enter Tryd.func3, Tryd.ntmps3
    go_wp2_with (first | ((go_at_call 5; with_reducible refine (known_any _).mono ?_); rintro _ w1 ⟨rfl, hb1⟩; have hb1s := hb1.size; (try simp only [World.size_alloc, World.size_setCell, World.size_drew, World.heap_drewN] at hb1s); obtain ⟨hb1c, hb1f⟩ := bcell hb1; (try have : w.heap.size < w1.heap.size := by omega); (try have : w.heap.size + 1 < w1.heap.size := by omega); (try have : w.heap.size + 1 + 1 < w1.heap.size := by omega); (try have : w.heap.size + 1 + 1 + 1 < w1.heap.size := by omega)) | ((go_at_call 6; with_reducible refine (H1.out _ (by (repeat' (first | (with_reducible exact Below.refl _ _) | (with_reducible assumption) | (with_reducible refine Below.drew ?_) | (with_reducible refine below_drewN ?_ _) | ((with_reducible refine Below.alloc ?_ ?_ _); rotate_left; focus (go_size; done)) | ((with_reducible refine Below.setCell ?_ ?_ _); rotate_left; focus (go_size; done)) | ((with_reducible refine Below.trans ?_ (Below.mono (by with_reducible assumption) ?_)); rotate_left; focus (go_size; done)))))).mono ?_); rintro _ w2 ⟨rfl, hb2⟩; have hb2s := hb2.size; (try simp only [World.size_alloc, World.size_setCell, World.size_drew, World.heap_drewN] at hb2s); obtain ⟨hb2c, hb2f⟩ := bcell hb2; (try have : w.heap.size < w2.heap.size := by omega); (try have : w.heap.size + 1 < w2.heap.size := by omega); (try have : w.heap.size + 1 + 1 < w2.heap.size := by omega); (try have : w.heap.size + 1 + 1 + 1 < w2.heap.size := by omega); (try have : w1.heap.size < w2.heap.size := by omega); (try have : w1.heap.size + 1 < w2.heap.size := by omega); (try have : w1.heap.size + 1 + 1 < w2.heap.size := by omega); (try have : w1.heap.size + 1 + 1 + 1 < w2.heap.size := by omega)) | ((go_at_call 7; with_reducible refine (H2.out _ (by (repeat' (first | (with_reducible exact Below.refl _ _) | (with_reducible assumption) | (with_reducible refine Below.drew ?_) | (with_reducible refine below_drewN ?_ _) | ((with_reducible refine Below.alloc ?_ ?_ _); rotate_left; focus (go_size; done)) | ((with_reducible refine Below.setCell ?_ ?_ _); rotate_left; focus (go_size; done)) | ((with_reducible refine Below.trans ?_ (Below.mono (by with_reducible assumption) ?_)); rotate_left; focus (go_size; done)))))).mono ?_); rintro _ w3 ⟨rfl, hb3⟩; have hb3s := hb3.size; (try simp only [World.size_alloc, World.size_setCell, World.size_drew, World.heap_drewN] at hb3s); obtain ⟨hb3c, hb3f⟩ := bcell hb3; (try have : w.heap.size < w3.heap.size := by omega); (try have : w.heap.size + 1 < w3.heap.size := by omega); (try have : w.heap.size + 1 + 1 < w3.heap.size := by omega); (try have : w.heap.size + 1 + 1 + 1 < w3.heap.size := by omega); (try have : w1.heap.size < w3.heap.size := by omega); (try have : w1.heap.size + 1 < w3.heap.size := by omega); (try have : w1.heap.size + 1 + 1 < w3.heap.size := by omega); (try have : w1.heap.size + 1 + 1 + 1 < w3.heap.size := by omega); (try have : w2.heap.size < w3.heap.size := by omega); (try have : w2.heap.size + 1 < w3.heap.size := by omega); (try have : w2.heap.size + 1 + 1 < w3.heap.size := by omega); (try have : w2.heap.size + 1 + 1 + 1 < w3.heap.size := by omega)) | ((go_at_call 8; with_reducible refine (H3.out _ (by (repeat' (first | (with_reducible exact Below.refl _ _) | (with_reducible assumption) | (with_reducible refine Below.drew ?_) | (with_reducible refine below_drewN ?_ _) | ((with_reducible refine Below.alloc ?_ ?_ _); rotate_left; focus (go_size; done)) | ((with_reducible refine Below.setCell ?_ ?_ _); rotate_left; focus (go_size; done)) | ((with_reducible refine Below.trans ?_ (Below.mono (by with_reducible assumption) ?_)); rotate_left; focus (go_size; done)))))).mono ?_); rintro _ w4 ⟨rfl, hb4⟩; have hb4s := hb4.size; (try simp only [World.size_alloc, World.size_setCell, World.size_drew, World.heap_drewN] at hb4s); obtain ⟨hb4c, hb4f⟩ := bcell hb4; (try have : w.heap.size < w4.heap.size := by omega); (try have : w.heap.size + 1 < w4.heap.size := by omega); (try have : w.heap.size + 1 + 1 < w4.heap.size := by omega); (try have : w.heap.size + 1 + 1 + 1 < w4.heap.size := by omega); (try have : w1.heap.size < w4.heap.size := by omega); (try have : w1.heap.size + 1 < w4.heap.size := by omega); (try have : w1.heap.size + 1 + 1 < w4.heap.size := by omega); (try have : w1.heap.size + 1 + 1 + 1 < w4.heap.size := by omega); (try have : w2.heap.size < w4.heap.size := by omega); (try have : w2.heap.size + 1 < w4.heap.size := by omega); (try have : w2.heap.size + 1 + 1 < w4.heap.size := by omega); (try have : w2.heap.size + 1 + 1 + 1 < w4.heap.size := by omega); (try have : w3.heap.size < w4.heap.size := by omega); (try have : w3.heap.size + 1 < w4.heap.size := by omega); (try have : w3.heap.size + 1 + 1 < w4.heap.size := by omega); (try have : w3.heap.size + 1 + 1 + 1 < w4.heap.size := by omega)) | ((go_at_call 9; with_reducible refine (H4.out _ (by (repeat' (first | (with_reducible exact Below.refl _ _) | (with_reducible assumption) | (with_reducible refine Below.drew ?_) | (with_reducible refine below_drewN ?_ _) | ((with_reducible refine Below.alloc ?_ ?_ _); rotate_left; focus (go_size; done)) | ((with_reducible refine Below.setCell ?_ ?_ _); rotate_left; focus (go_size; done)) | ((with_reducible refine Below.trans ?_ (Below.mono (by with_reducible assumption) ?_)); rotate_left; focus (go_size; done)))))).mono ?_); rintro _ w5 ⟨rfl, hb5⟩; have hb5s := hb5.size; (try simp only [World.size_alloc, World.size_setCell, World.size_drew, World.heap_drewN] at hb5s); obtain ⟨hb5c, hb5f⟩ := bcell hb5; (try have : w.heap.size < w5.heap.size := by omega); (try have : w.heap.size + 1 < w5.heap.size := by omega); (try have : w.heap.size + 1 + 1 < w5.heap.size := by omega); (try have : w.heap.size + 1 + 1 + 1 < w5.heap.size := by omega); (try have : w1.heap.size < w5.heap.size := by omega); (try have : w1.heap.size + 1 < w5.heap.size := by omega); (try have : w1.heap.size + 1 + 1 < w5.heap.size := by omega); (try have : w1.heap.size + 1 + 1 + 1 < w5.heap.size := by omega); (try have : w2.heap.size < w5.heap.size := by omega); (try have : w2.heap.size + 1 < w5.heap.size := by omega); (try have : w2.heap.size + 1 + 1 < w5.heap.size := by omega); (try have : w2.heap.size + 1 + 1 + 1 < w5.heap.size := by omega); (try have : w3.heap.size < w5.heap.size := by omega); (try have : w3.heap.size + 1 < w5.heap.size := by omega); (try have : w3.heap.size + 1 + 1 < w5.heap.size := by omega); (try have : w3.heap.size + 1 + 1 + 1 < w5.heap.size := by omega); (try have : w4.heap.size < w5.heap.size := by omega); (try have : w4.heap.size + 1 < w5.heap.size := by omega); (try have : w4.heap.size + 1 + 1 < w5.heap.size := by omega); (try have : w4.heap.size + 1 + 1 + 1 < w5.heap.size := by omega)))
    go_ret
    exact ⟨rfl, by (repeat' (first | (with_reducible exact Below.refl _ _) | (with_reducible assumption) | (with_reducible refine Below.drew ?_) | (with_reducible refine below_drewN ?_ _) | ((with_reducible refine Below.alloc ?_ ?_ _); rotate_left; focus (go_size; done)) | ((with_reducible refine Below.setCell ?_ ?_ _); rotate_left; focus (go_size; done)) | ((with_reducible refine Below.trans ?_ (Below.mono (by with_reducible assumption) ?_)); rotate_left; focus (go_size; done))))⟩
end Go.Proofs.YtanjbdhjnmmfdaaDoor

set_option linter.unusedSimpArgs false
set_option linter.unusedVariables false
namespace Go.Proofs.YtanjbdhjnmmfdaaDoor
open Go.RowKit
open Go.ChangeShapes Go.WideShapes Go.ChangeAt
open Go.ChangeMaps (open_string shut_string)
set_option linter.unusedVariables false
theorem own : ownKnob Tryd.prog.godebug = none := by kernel_rfl
theorem laidOut : laidOutB Tryd.prog = true := by kernel_rfl

theorem bulk_pos {H : Type} (d : DataW H) : 1 ≤ Rows.uptoBulk d := by
  cases d with
  | lit l => cases l <;> simp [Rows.uptoBulk]
  | _ => simp [Rows.uptoBulk]
theorem bulk_map {H : Type} (D : Nat → DataW H) : ∀ (n : Nat) (L : List Nat), L.length = n → Rows.uptoBulkAll (L.map D) = (L.map fun i => Rows.uptoBulk (D i)).sum
  | 0, [], _ => rfl
  | n + 1, x :: r, h => by
    rw [List.map_cons, List.map_cons, Rows.uptoBulkAll, List.sum_cons, bulk_map D n r (by simpa using h)]
theorem bulk_range {H : Type} (D : Nat → DataW H) (n : Nat) : Rows.uptoBulkAll ((List.range n).map D) = ((List.range n).map fun i => Rows.uptoBulk (D i)).sum := bulk_map D n _ (by simp)
theorem sum_range_succ (f : Nat → Nat) (n : Nat) : ((List.range (n + 1)).map f).sum = ((List.range n).map f).sum + f n := by
  rw [List.range_succ, List.map_append, List.sum_append]; simp
theorem sum_mem (f : Nat → Nat) : ∀ (n i : Nat), i < n → f i ≤ ((List.range n).map f).sum
  | 0, i, h => absurd h (Nat.not_lt_zero _)
  | n + 1, i, h => by
    rw [sum_range_succ]
    rcases Nat.lt_or_ge i n with h' | h'
    · have := sum_mem f n i h'; omega
    · obtain rfl : i = n := by omega
      omega
theorem sum_pos (f : Nat → Nat) (hf : ∀ i, 1 ≤ f i) : ∀ n, n ≤ ((List.range n).map f).sum
  | 0 => Nat.zero_le _
  | n + 1 => by
    rw [sum_range_succ]
    have := sum_pos f hf n
    have := hf n
    omega
/-- the values of a slice, one by one -/
theorem vds_of {P : Nat → VD → Prop} {f : Nat → Nat} : ∀ n, (∀ i, i < n → ∃ d, P i d ∧ d.size ≤ f i) → ∃ l : List VD, l.length = n ∧ (∀ i, i < n → P i (vg l i)) ∧ sizes l ≤ ((List.range n).map f).sum
  | 0, _ => ⟨[], rfl, fun i hi => absurd hi (Nat.not_lt_zero _), by simp [sizes]⟩
  | n + 1, h => by
    obtain ⟨l, h1, h2, h3⟩ := vds_of (P := P) (f := f) n (fun i hi => h i (by omega))
    obtain ⟨d, h4, h5⟩ := h n (by omega)
    refine ⟨l ++ [d], by rw [List.length_append, h1]; rfl, fun i hi => ?_, ?_⟩
    · unfold vg
      rcases Nat.lt_or_ge i n with h' | h'
      · rw [List.getD_eq_getElem?_getD, List.getElem?_append_left (by omega)]
        have := h2 i h'
        unfold vg at this
        rwa [List.getD_eq_getElem?_getD] at this
      · obtain rfl : i = n := by omega
        rw [List.getD_eq_getElem?_getD, List.getElem?_append_right (by omega), h1, Nat.sub_self]
        exact h4
    · rw [sizes_append, sum_range_succ]
      simp only [sizes]
      omega
theorem nms_of {P : Nat → List UInt8 → Prop} : ∀ n, (∀ i, i < n → ∃ d, P i d) → ∃ l : List (List UInt8), l.length = n ∧ ∀ i, i < n → P i (ng l i)
  | 0, _ => ⟨[], rfl, fun i hi => absurd hi (Nat.not_lt_zero _)⟩
  | n + 1, h => by
    obtain ⟨l, h1, h2⟩ := nms_of (P := P) n (fun i hi => h i (by omega))
    obtain ⟨d, h4⟩ := h n (by omega)
    refine ⟨l ++ [d], by rw [List.length_append, h1]; rfl, fun i hi => ?_⟩
    unfold ng
    rcases Nat.lt_or_ge i n with h' | h'
    · rw [List.getD_eq_getElem?_getD, List.getElem?_append_left (by omega)]
      have := h2 i h'
      unfold ng at this
      rwa [List.getD_eq_getElem?_getD] at this
    · obtain rfl : i = n := by omega
      rw [List.getD_eq_getElem?_getD, List.getElem?_append_right (by omega), h1, Nat.sub_self]
      exact h4
section
variable {H : Type} {enc : TypeId × Value → H} {W : World} {b0 : Nat} {sp : Nat → Bool} {held : Bool}
/-- how deep: one depth for all of a list -/
theorem RV.mk {d : VD} {A : Option Addr} {C : Nat} {A2 : Option Addr} {C2 : Nat} (h1 : d.s.ok) (h2 : Vls (RV W) W (.slice A d.list.length C) d.list) (h3 : Nms W (.slice A2 d.names.length C2) d.names) : RV W (.slice A d.list.length C) (.slice A2 d.names.length C2) d := by
  have up : ∀ (n : Nat) (k : Nat) (L N : Value) (x : VD), VR n W L N x → VR (n + k) W L N x := fun n => by
    induction n with
    | zero => intro k L N x h; exact h.elim
    | succ n ih =>
      intro k L N x h
      rw [show n + 1 + k = (n + k) + 1 by omega]
      exact ⟨h.1, h.2.1.imp (fun _ _ _ q => ih k _ _ _ q), h.2.2⟩
  obtain ⟨A', C', e, hc, hr⟩ := h2
  have hall : ∃ m, ∀ r, r < d.list.length → ∃ b o A1 C1 A2 C2, A' = some ⟨b, o, none⟩ ∧ At W b (o + r * 10) ((vg d.list r).s.cs ++ [.slice A1 (vg d.list r).list.length C1, .slice A2 (vg d.list r).names.length C2]) ∧ VR m W (.slice A1 (vg d.list r).list.length C1) (.slice A2 (vg d.list r).names.length C2) (vg d.list r) := by
    have key : ∀ n, n ≤ d.list.length → ∃ m, ∀ r, r < n → ∃ b o A1 C1 A2 C2, A' = some ⟨b, o, none⟩ ∧ At W b (o + r * 10) ((vg d.list r).s.cs ++ [.slice A1 (vg d.list r).list.length C1, .slice A2 (vg d.list r).names.length C2]) ∧ VR m W (.slice A1 (vg d.list r).list.length C1) (.slice A2 (vg d.list r).names.length C2) (vg d.list r) := fun n => by
      induction n with
      | zero => intro _; exact ⟨0, fun r hr => absurd hr (Nat.not_lt_zero _)⟩
      | succ n ih =>
        intro hn
        obtain ⟨m, hm⟩ := ih (by omega)
        obtain ⟨b, o, A1, C1, A2, C2, q1, q2, m2, q3⟩ := hr n (by omega)
        refine ⟨m + m2, fun r hr => ?_⟩
        rcases Nat.lt_or_ge r n with h' | h'
        · obtain ⟨b', o', A1', C1', A2', C2', p1, p2, p3⟩ := hm r h'
          exact ⟨b', o', A1', C1', A2', C2', p1, p2, up m m2 _ _ _ p3⟩
        · obtain rfl : r = n := by omega
          exact ⟨b, o, A1, C1, A2, C2, q1, q2, by rw [Nat.add_comm]; exact up m2 m _ _ _ q3⟩
    exact key _ (Nat.le_refl _)
  obtain ⟨m, hm⟩ := hall
  exact ⟨m + 1, h1, ⟨A', C', e, hc, hm⟩, h3⟩
theorem open_names {fuel : Nat} {c : Value} {x : DataW H × List MemPlace} (h : DataW.trod enc Tryd.prog W b0 sp held fuel 28 [c] = some x) (hb : Rows.uptoBulk x.1 ≤ 1048576) :
    ∃ A C l, c = .slice A l.length C ∧ Nms W c l := by
  rcases Deep.open_slice1 Tryd.underlying28 (by kernel_rfl) h with ⟨hc, rfl⟩ | ⟨a, len, cap, m, n, V, D, Pl, hc, _, hl, hm, hmm, rfl, hx⟩
  · injection hc with hc
    subst hc
    exact ⟨none, 0, [], rfl, none, 0, rfl, ⟨by simp, by simp, by unfold maxLen; omega⟩, fun r hr => absurd hr (by simp)⟩
  · injection hc with hc
    subst hc
    have hle : len ≤ m := by rw [hmm]; split <;> omega
    simp only [Rows.uptoBulk] at hb
    rw [bulk_range] at hb
    have hlen : len ≤ 1048576 := by
      have := sum_pos (fun i => Rows.uptoBulk (D i)) (fun i => bulk_pos _) len
      omega
    obtain ⟨b, o, spot⟩ := a
    obtain ⟨l, h1, h2⟩ := nms_of (P := fun i s => spot = none ∧ W.cell? ⟨b, o + i, none⟩ = some (.string ⟨s.toArray⟩) ∧ s.length ≤ 1048576) len (fun i hi => by
      obtain ⟨h3, h4⟩ := hx i (by omega)
      obtain ⟨s, e1, e2, _⟩ := DataW.trod_string Tryd.underlying9 h4
      have hspot : spot = none := by simpa [Addr.add] using World.cell?_spot (hx 0 (by omega)).1
      subst hspot
      injection e1 with e1
      refine ⟨s.data.toList, rfl, ?_, ?_⟩
      · rw [← add_plain, h3, e1]
      · have := sum_mem (fun i => Rows.uptoBulk (D i)) len i hi
        injection e2 with e2 _
        rw [e2] at this
        simp only [Rows.uptoBulk] at this
        omega)
    refine ⟨some ⟨b, o, spot⟩, cap, l, by rw [h1], some ⟨b, o, spot⟩, cap, by rw [h1], ⟨by omega, by omega, by unfold maxLen at hm ⊢; omega⟩, fun r hr => ?_⟩
    obtain ⟨h3, h4, h5⟩ := h2 r (by omega)
    subst h3
    exact ⟨b, o, rfl, h4, h5⟩
theorem wd_split2 {x y : Int} (hx : (Lit.int .u64 x).wf = true) (hy : (Lit.int .u64 y).wf = true) : ∃ n, n < 2 ^ 128 ∧ x = wd n 1 ∧ y = wd n 0 := by
  have wf : ∀ z : Int, (Lit.int .u64 z).wf = true → 0 ≤ z ∧ z < 18446744073709551616 := fun z hz => by
    have e1 : IntKind.u64.min = 0 := rfl
    have e2 : IntKind.u64.max = 18446744073709551615 := rfl
    simp [Lit.wf, e1, e2] at hz
    omega
  obtain ⟨x0, x1⟩ := wf x hx
  obtain ⟨y0, y1⟩ := wf y hy
  obtain ⟨n, hn, _, e1, e2⟩ := wd_make x y x0 x1 y0 y1
  exact ⟨n, hn, e1, e2⟩
set_option maxRecDepth 100000 in
theorem open_dec4 {fuel : Nat} {c0 c1 c2 c3 : Value} {x : DataW H × List MemPlace} (h : DataW.trod enc Tryd.prog W b0 sp held fuel 26 [c0, c1, c2, c3] = some x) :
    ∃ (b : Bool) (c : Nat) (s : Int), c < 2 ^ 128 ∧ c0 = .bool b ∧ c1 = .int .u64 (wd c 1) ∧ c2 = .int .u64 (wd c 0) ∧ c3 = .int .i64 s := by
  obtain ⟨xs, n, _, hx, _, hlen, hg⟩ := DataW.trod_struct Tryd.underlying26 h
  have n0 : Tryd.prog.cellsOf 4 = 1 := by kernel_rfl
  have n1 : Tryd.prog.cellsOf 24 = 2 := by kernel_rfl
  have n2 : Tryd.prog.cellsOf 3 = 1 := by kernel_rfl
  have n3 : Tryd.prog.cellsOf 22 = 1 := by kernel_rfl
  have g0 := hg 0 _ rfl
  have g1 := hg 1 _ rfl
  have g2 := hg 2 _ rfl
  clear hg hx
  match xs, hlen with
  | [y0, y1, y2], _ =>
    simp only [List.getElem_toArray, List.getElem_cons_zero, List.getElem_cons_succ, n0, n1, n2] at g0 g1 g2
    simp at g0 g1 g2
    obtain ⟨b, e0, _⟩ := DataW.trod_bool Tryd.underlying4 g0
    obtain ⟨z2, e2, _, w2⟩ := DataW.trod_int Tryd.underlying3 g2
    obtain ⟨ys, n', _, _, _, hlen2, hg2⟩ := DataW.trod_struct Tryd.underlying24 g1
    have k0 := hg2 0 _ rfl
    have k1 := hg2 1 _ rfl
    match ys, hlen2 with
    | [q0, q1], _ =>
      simp only [List.getElem_toArray, List.getElem_cons_zero, List.getElem_cons_succ, n3] at k0 k1
      simp at k0 k1
      obtain ⟨z0, f0, _, v0⟩ := DataW.trod_int Tryd.underlying22 k0
      obtain ⟨z1, f1, _, v1⟩ := DataW.trod_int Tryd.underlying22 k1
      obtain ⟨c, hc, rfl, rfl⟩ := wd_split2 v0 v1
      simp at e0 e2 f0 f1
      exact ⟨b, c, z2, hc, e0, f0, f1, e2⟩
set_option maxRecDepth 100000 in
set_option maxHeartbeats 2000000 in
theorem open_cells : ∀ (N : Nat) (fuel : Nat) (cs : List Value) (x : DataW H × List MemPlace), Rows.uptoBulk x.1 ≤ N → N ≤ 1048576 → DataW.trod enc Tryd.prog W b0 sp held fuel 30 cs = some x →
    ∃ vd A C A2 C2, cs = vd.s.cs ++ [.slice A vd.list.length C, .slice A2 vd.names.length C2] ∧ RV W (.slice A vd.list.length C) (.slice A2 vd.names.length C2) vd ∧ vd.size ≤ Rows.uptoBulk x.1
  | 0, _, _, x, h, _, _ => by have := bulk_pos x.1; omega
  | N + 1, fuel, cs, x, hN, hN2, h => by
    obtain ⟨xs, n, _, hx, hcl, hlen, hg⟩ := DataW.trod_struct Tryd.underlying30 h
    have n0 : Tryd.prog.cellsOf 3 = 1 := by kernel_rfl
    have n1 : Tryd.prog.cellsOf 4 = 1 := by kernel_rfl
    have n2 : Tryd.prog.cellsOf 26 = 4 := by kernel_rfl
    have n3 : Tryd.prog.cellsOf 9 = 1 := by kernel_rfl
    have n4 : Tryd.prog.cellsOf 27 = 1 := by kernel_rfl
    have n5 : Tryd.prog.cellsOf 28 = 1 := by kernel_rfl
    have n6 : Tryd.prog.cellsOf 30 = 10 := by kernel_rfl
    rw [n6] at hcl
    have g0 := hg 0 _ rfl
    have g1 := hg 1 _ rfl
    have g2 := hg 2 _ rfl
    have g3 := hg 3 _ rfl
    have g4 := hg 4 _ rfl
    have g5 := hg 5 _ rfl
    have g6 := hg 6 _ rfl
    clear hg h
    match cs, hcl with
    | [c0, c1, c2, c3, c4, c5, c6, c7, c8, c9], _ =>
      match xs, hlen with
      | [y0, y1, y2, y3, y4, y5, y6], _ =>
        simp only [List.getElem_toArray, List.getElem_cons_zero, List.getElem_cons_succ, n0, n1, n2, n3, n4, n5] at g0 g1 g2 g3 g4 g5 g6
        simp at g0 g1 g2 g3 g4 g5 g6
        obtain ⟨kind, e0, r0, _⟩ := DataW.trod_int Tryd.underlying3 g0
        obtain ⟨yes, e1, r1⟩ := DataW.trod_bool Tryd.underlying4 g1
        obtain ⟨neg, coef, sc, hcoef, e2, e3, e4, e5⟩ := open_dec4 g2
        obtain ⟨text, e6, r6, _⟩ := DataW.trod_string Tryd.underlying9 g3
        obtain ⟨day, e7, r7, _⟩ := DataW.trod_int Tryd.underlying3 g4
        simp at e0 e1 e6 e7
        subst e0 e1 e2 e3 e4 e5 e6 e7
        subst hx
        simp only [Rows.uptoBulk, List.map_cons, List.map_nil, Rows.uptoBulkAll] at hN ⊢
        have hb3 : text.data.toList.length ≤ 1048576 := by
          have : Rows.uptoBulk y3.1 = text.data.toList.length + 1 := by rw [r6]; rfl
          omega
        obtain ⟨A2, C2, nm, rfl, hnm⟩ := open_names g6 (by omega)
        rcases Deep.open_slice Tryd.underlying27 g5 with ⟨hc, rfl⟩ | ⟨a, len, cap, m, n', D, Pl, hc, _, hl, hm, hmm, rfl, hxs⟩
        · injection hc with hc
          subst hc
          refine ⟨.mk ⟨kind, yes, neg, coef, sc, text.data.toList, day⟩ [] nm, none, 0, A2, C2, ?_, RV.mk (d := .mk ⟨kind, yes, neg, coef, sc, text.data.toList, day⟩ [] nm) ⟨hcoef, hb3⟩ ⟨none, 0, rfl, ⟨by simp [VD.list], by simp [VD.list], by unfold maxLen; omega⟩, fun r hr => absurd hr (by simp [VD.list])⟩ hnm, ?_⟩
          · simp [VS.cs, VD.s, VD.list, VD.names]
          · simp [VD.size, sizes]
        · injection hc with hc
          subst hc
          rw [n6] at hxs
          have hle : len ≤ m := by rw [hmm]; split <;> omega
          simp only [Rows.uptoBulk] at hN ⊢
          rw [bulk_range] at hN ⊢
          have hlen2 : len ≤ 1048576 := by
            have := sum_pos (fun i => Rows.uptoBulk (D i)) (fun i => bulk_pos _) len
            omega
          obtain ⟨b, o, spot⟩ := a
          obtain ⟨l, h1, h2, h3⟩ := vds_of (P := fun i vd => spot = none ∧ ∃ A1 C1 A2 C2, At W b (o + i * 10) (vd.s.cs ++ [.slice A1 vd.list.length C1, .slice A2 vd.names.length C2]) ∧ RV W (.slice A1 vd.list.length C1) (.slice A2 vd.names.length C2) vd) (f := fun i => Rows.uptoBulk (D i)) len (fun i hi => by
            obtain ⟨cs', q1, q2⟩ := hxs i (by omega)
            have hbi := sum_mem (fun i => Rows.uptoBulk (D i)) len i hi
            obtain ⟨vd, A1, C1, A3, C3, e, hrv, hs⟩ := open_cells N n' cs' (D i, Pl i) (by dsimp only; omega) (by omega) q2
            obtain ⟨_, hl10, hat⟩ := World.cells?_some q1
            have hspot : spot = none := by
              obtain ⟨cs0, p1, _⟩ := hxs 0 (by omega)
              obtain ⟨_, hl0, hat0⟩ := World.cells?_some p1
              have h0 := hat0 0 (by omega)
              rw [List.getElem?_eq_getElem (by omega)] at h0
              simpa [Addr.add] using World.cell?_spot h0
            subst hspot
            refine ⟨vd, ⟨rfl, A1, C1, A3, C3, fun j hj => ?_, hrv⟩, hs⟩
            rw [← e] at hj ⊢
            rw [← hat j (by omega)]
            congr 1
            rw [show ((⟨b, o, none⟩ : Addr).add (i * 10)) = ⟨b, o + i * 10, none⟩ from add_plain .., show ((⟨b, o + i * 10, none⟩ : Addr).add j) = ⟨b, o + i * 10 + j, none⟩ from add_plain ..])
          refine ⟨.mk ⟨kind, yes, neg, coef, sc, text.data.toList, day⟩ l nm, some ⟨b, o, spot⟩, cap, A2, C2, ?_, RV.mk (d := .mk ⟨kind, yes, neg, coef, sc, text.data.toList, day⟩ l nm) ⟨hcoef, hb3⟩ ⟨some ⟨b, o, spot⟩, cap, rfl, ⟨?_, ?_, ?_⟩, fun r hr => ?_⟩ hnm, ?_⟩
          · simp [VS.cs, VD.s, VD.list, VD.names, h1]
          · show l.length ≤ _; omega
          · show l.length ≤ _; omega
          · unfold maxLen at hm ⊢; omega
          · have hr' : r < l.length := hr
            obtain ⟨q0, A1, C1, A3, C3, q1, q2⟩ := h2 r (by omega)
            subst q0
            exact ⟨b, o, A1, C1, A3, C3, rfl, q1, q2⟩
          · show 1 + sizes l ≤ _
            omega
end
end Go.Proofs.YtanjbdhjnmmfdaaDoor

set_option linter.unusedSimpArgs false
set_option linter.unusedVariables false
namespace Go.Proofs.YtanjbdhjnmmfdaaDoor
open Go.RowKit
open Go.ChangeShapes Go.WideShapes Go.ChangeAt
open Go.ChangeMaps (open_string shut_string)
set_option linter.unusedVariables false

set_option maxRecDepth 100000 in
theorem open_val {H : Type} {enc : TypeId × Value → H} {W : World} {base b0 : Nat} {v : Value} {d : DataW H} {p : List MemPlace} {sp : Nat → Bool} {held : Bool}
    (hv : Value.okWide Tryd.prog W .any base 30 v) (h : DataW.Trod enc Tryd.prog W b0 sp held 30 v d p) (hb : Rows.uptoBulk d ≤ 1048576) :
    ∃ vd A C A2 C2, v = vargs vd A C A2 C2 ∧ VA W vd A C A2 C2 ∧ vd.size ≤ 1048576 := by
  obtain ⟨cs, rfl, hsz⟩ := Go.WideShapes.okWide_struct Tryd.underlying30 hv
  obtain ⟨fuel, hf⟩ := h
  obtain ⟨vd, A, C, A2, C2, e, hrv, hs⟩ := open_cells 1048576 fuel _ (d, p) hb (Nat.le_refl _) hf
  refine ⟨vd, A, C, A2, C2, ?_, hrv, Nat.le_trans hs hb⟩
  obtain ⟨l⟩ := cs
  have e' : l = vd.s.cs ++ [.slice A vd.list.length C, .slice A2 vd.names.length C2] := e
  rw [e']
  rfl
theorem first_is : Rows.laid_unicode_utf8_first = Lib.firstData := by kernel_rfl
theorem accept_is : (Rows.laid_unicode_utf8_acceptRanges : DataW Unit) = Lib.acceptData := by kernel_rfl
theorem tabs_laid {W : World} (hL : laidMet Tryd.prog [("unicode/utf8.acceptRanges", Rows.laid_unicode_utf8_acceptRanges), ("unicode/utf8.first", Rows.laid_unicode_utf8_first)] W) : Tabs W := by
  rw [first_is, accept_is] at hL
  exact utf8Tabs_of_readsT (U8Types.of196 Tryd.lays196) ⟨by kernel_rfl, by kernel_rfl, by kernel_rfl, by kernel_rfl, by kernel_rfl, by kernel_rfl, by kernel_rfl⟩ (Lib.laidMet.reads hL (.tail _ (.head _))) (Lib.laidMet.reads hL (.head _))
@[reducible] def zargs : Value := .agg #[.int .i64 0, .bool false, .bool false, .int .u64 0, .int .u64 0, .int .i64 0, .string ⟨#[]⟩, .int .i64 0, .slice none 0 0, .slice none 0 0]
end Go.Proofs.YtanjbdhjnmmfdaaDoor
