/- What is asked first: the name of lists of numbers, and the type of that name. -/
import Derived.Test.YtmfkhmlpikdmeaaKc
import Derived.Test.YtmfkhmlpikdmeaaSh
namespace Go.Proofs.Ytmfkhmlpikdmeaa
open Go.RowKit

def simpleS : Nat → List UInt8
  | 0 => [97, 110, 121]
  | 1 => [98, 111, 111, 108, 101, 97, 110]
  | 2 => [110, 117, 109, 98, 101, 114]
  | 3 => [115, 116, 114, 105, 110, 103]
  | _ => [100, 97, 116, 101]
theorem simpleS_len (k : Nat) : (simpleS k).length ≤ 7 := by unfold simpleS; split <;> decide
set_option maxHeartbeats 400000 in
theorem simple_any (k : Int) (h0 : 0 ≤ k) (hk : k < 5) (w : World) : Calls Try.prog 18 #[.int .i64 k] w fun e w' => e = .returned (.string ⟨(simpleS k.toNat).toArray⟩) ∧ Below w.heap.size w w' := by
  have i0 : ∀ w, (Instr.index 43 (.agg #[.string ⟨#[97, 110, 121]⟩, .string ⟨#[98, 111, 111, 108, 101, 97, 110]⟩, .string ⟨#[110, 117, 109, 98, 101, 114]⟩, .string ⟨#[115, 116, 114, 105, 110, 103]⟩, .string ⟨#[100, 97, 116, 101]⟩]) (.int .i64 0)).run Try.prog w = .ok (.string ⟨#[97, 110, 121]⟩) w := fun _ => by kernel_rfl
  have i1 : ∀ w, (Instr.index 43 (.agg #[.string ⟨#[97, 110, 121]⟩, .string ⟨#[98, 111, 111, 108, 101, 97, 110]⟩, .string ⟨#[110, 117, 109, 98, 101, 114]⟩, .string ⟨#[115, 116, 114, 105, 110, 103]⟩, .string ⟨#[100, 97, 116, 101]⟩]) (.int .i64 1)).run Try.prog w = .ok (.string ⟨#[98, 111, 111, 108, 101, 97, 110]⟩) w := fun _ => by kernel_rfl
  have i2 : ∀ w, (Instr.index 43 (.agg #[.string ⟨#[97, 110, 121]⟩, .string ⟨#[98, 111, 111, 108, 101, 97, 110]⟩, .string ⟨#[110, 117, 109, 98, 101, 114]⟩, .string ⟨#[115, 116, 114, 105, 110, 103]⟩, .string ⟨#[100, 97, 116, 101]⟩]) (.int .i64 2)).run Try.prog w = .ok (.string ⟨#[110, 117, 109, 98, 101, 114]⟩) w := fun _ => by kernel_rfl
  have i3 : ∀ w, (Instr.index 43 (.agg #[.string ⟨#[97, 110, 121]⟩, .string ⟨#[98, 111, 111, 108, 101, 97, 110]⟩, .string ⟨#[110, 117, 109, 98, 101, 114]⟩, .string ⟨#[115, 116, 114, 105, 110, 103]⟩, .string ⟨#[100, 97, 116, 101]⟩]) (.int .i64 3)).run Try.prog w = .ok (.string ⟨#[115, 116, 114, 105, 110, 103]⟩) w := fun _ => by kernel_rfl
  have i4 : ∀ w, (Instr.index 43 (.agg #[.string ⟨#[97, 110, 121]⟩, .string ⟨#[98, 111, 111, 108, 101, 97, 110]⟩, .string ⟨#[110, 117, 109, 98, 101, 114]⟩, .string ⟨#[115, 116, 114, 105, 110, 103]⟩, .string ⟨#[100, 97, 116, 101]⟩]) (.int .i64 4)).run Try.prog w = .ok (.string ⟨#[100, 97, 116, 101]⟩) w := fun _ => by kernel_rfl
  have hk' : k = 0 ∨ k = 1 ∨ k = 2 ∨ k = 3 ∨ k = 4 := by omega
  rcases hk' with rfl | rfl | rfl | rfl | rfl
  all_goals
    go_enter Try.func18, Try.ntmps18
    go_wp2
    go_ret
    exact ⟨rfl, by (repeat' (first | (with_reducible exact Below.refl _ _) | (with_reducible assumption) | (with_reducible refine Below.drew ?_) | (with_reducible refine below_drewN ?_ _) | ((with_reducible refine Below.alloc ?_ ?_ _); rotate_left; focus (go_size; done)) | ((with_reducible refine Below.setCell ?_ ?_ _); rotate_left; focus (go_size; done)) | ((with_reducible refine Below.trans ?_ (Below.mono (by with_reducible assumption) ?_)); rotate_left; focus (go_size; done))))⟩


def listS : List UInt8 := [108, 105, 115, 116, 60]
def nameS (i : Nat) : List UInt8 := if i < 5 then simpleS i else listS ++ simpleS (i - 5) ++ [62]
set_option maxHeartbeats 400000 in
theorem names_low (i : Int) (h0 : 0 ≤ i) (h5 : i < 5) (w : World) : Calls Try.prog 19 #[.int .i64 i] w fun e w' => e = .returned (.string ⟨(simpleS i.toNat).toArray⟩) ∧ Below w.heap.size w w' := by
  have hk' : i = 0 ∨ i = 1 ∨ i = 2 ∨ i = 3 ∨ i = 4 := by omega
  rcases hk' with rfl | rfl | rfl | rfl | rfl
  all_goals
    go_enter Try.func19, Try.ntmps19
    go_wp2_with fail
    go_ret
    exact ⟨rfl, by (repeat' (first | (with_reducible exact Below.refl _ _) | (with_reducible assumption) | (with_reducible refine Below.drew ?_) | (with_reducible refine below_drewN ?_ _) | ((with_reducible refine Below.alloc ?_ ?_ _); rotate_left; focus (go_size; done)) | ((with_reducible refine Below.setCell ?_ ?_ _); rotate_left; focus (go_size; done)) | ((with_reducible refine Below.trans ?_ (Below.mono (by with_reducible assumption) ?_)); rotate_left; focus (go_size; done))))⟩
set_option maxHeartbeats 400000 in
theorem names_any (i : Int) (h0 : 0 ≤ i) (h5 : i < 10) (w : World) : Calls Try.prog 19 #[.int .i64 i] w fun e w' => e = .returned (.string ⟨(nameS i.toNat).toArray⟩) ∧ Below w.heap.size w w' := by
  by_cases h : i < 5
  · have e : nameS i.toNat = simpleS i.toNat := by unfold nameS; rw [if_pos (by omega)]
    rw [e]
    exact names_low i h0 h w
  · have e : nameS i.toNat = listS ++ simpleS (i - 5).toNat ++ [62] := by
      unfold nameS; rw [if_neg (by omega), show i.toNat - 5 = (i - 5).toNat by omega]
    rw [e]
    have h6 : 0 ≤ i - 5 := by omega
    have h7 : i - 5 < 5 := by omega
    have n0 : (i == 0) = false := by simp; omega
    have n1 : (i == 1) = false := by simp; omega
    have n2 : (i == 2) = false := by simp; omega
    have n3 : (i == 3) = false := by simp; omega
    have n4 : (i == 4) = false := by simp; omega
    have hn := fun W => names_low (i - 5) h6 h7 W
    have hq : (simpleS (i - 5).toNat).length ≤ 7 := simpleS_len _
    generalize simpleS (i - 5).toNat = q at *
    have HN := Lib.hid hn
    clear hn e
    go_enter Try.func19, Try.ntmps19
    go_wp2_with (go_at_call 19; (with_reducible refine (HN.out _).mono ?_); rintro _ w1 ⟨rfl, hb1⟩; have hb1s := hb1.size; (try simp only [World.size_alloc, World.size_setCell, World.size_drew] at hb1s); obtain ⟨hb1c, hb1f⟩ := bcell hb1; (try have : w.heap.size < w1.heap.size := by omega); (try have : w.heap.size + 1 < w1.heap.size := by omega); (try have : w.heap.size + 1 + 1 < w1.heap.size := by omega); (try have : w.heap.size + 1 + 1 + 1 < w1.heap.size := by omega))
    go_ret
    refine ⟨?_, by (repeat' (first | (with_reducible exact Below.refl _ _) | (with_reducible assumption) | (with_reducible refine Below.drew ?_) | (with_reducible refine below_drewN ?_ _) | ((with_reducible refine Below.alloc ?_ ?_ _); rotate_left; focus (go_size; done)) | ((with_reducible refine Below.setCell ?_ ?_ _); rotate_left; focus (go_size; done)) | ((with_reducible refine Below.trans ?_ (Below.mono (by with_reducible assumption) ?_)); rotate_left; focus (go_size; done))))⟩
    show Ending.returned (.string _) = _
    rw [show (⟨#[108, 105, 115, 116, 60]⟩ : ByteArray) = ⟨listS.toArray⟩ from rfl, show (⟨#[62]⟩ : ByteArray) = ⟨([62] : List UInt8).toArray⟩ from rfl, ByteArray.mk_append_mk, ByteArray.mk_append_mk]

/-- Name of a type in form: its name. -/
def nameT (k o : Int) : List UInt8 := if formB k o = true then nameS (numB k o).toNat else []
def errT (k o : Int) : Int := if formB k o = true then 0 else 2
theorem numB_bd (k o : Int) (hf : formB k o = true) : 0 ≤ numB k o ∧ numB k o < 10 := by
  refine ⟨by have := form_num k o; rw [hf] at this; simpa using this, ?_⟩
  unfold numB; split <;> (try split) <;> omega
set_option maxHeartbeats 400000 in
theorem named_any (k o : Int) (hf : formB k o = true) (w : World) : Calls Try.prog 17 #[.agg #[.int .i64 k, .int .i64 o]] w fun e w' => e = .returned (.string ⟨(nameS (numB k o).toNat).toArray⟩) ∧ Below w.heap.size w w' := by
  have hb := numB_bd k o hf
  have h3 := fun W => names_any (numB k o) hb.1 hb.2 W
  have h4 := fun W => number_any k o W
  generalize nameS (numB k o).toNat = q at *
  generalize numB k o = m at *
  have HN := Lib.hid h3
  have HM := Lib.hid h4
  clear h3 h4 hb hf
  go_enter Try.func17, Try.ntmps17
  go_wp2_with (first
    | ((go_at_call 16; with_reducible refine (HM.out _).mono ?_); rintro _ w1 ⟨rfl, hb1⟩; have hb1s := hb1.size; (try simp only [World.size_alloc, World.size_setCell, World.size_drew] at hb1s); obtain ⟨hb1c, hb1f⟩ := bcell hb1; (try have : w.heap.size < w1.heap.size := by omega); (try have : w.heap.size + 1 < w1.heap.size := by omega); (try have : w.heap.size + 1 + 1 < w1.heap.size := by omega); (try have : w.heap.size + 1 + 1 + 1 < w1.heap.size := by omega))
    | ((go_at_call 19; with_reducible refine (HN.out _).mono ?_); rintro _ w2 ⟨rfl, hb2⟩; have hb2s := hb2.size; (try simp only [World.size_alloc, World.size_setCell, World.size_drew] at hb2s); obtain ⟨hb2c, hb2f⟩ := bcell hb2; (try have : w.heap.size < w2.heap.size := by omega); (try have : w.heap.size + 1 < w2.heap.size := by omega); (try have : w.heap.size + 1 + 1 < w2.heap.size := by omega); (try have : w.heap.size + 1 + 1 + 1 < w2.heap.size := by omega)))
  go_ret
  exact ⟨rfl, by (repeat' (first | (with_reducible exact Below.refl _ _) | (with_reducible assumption) | (with_reducible refine Below.drew ?_) | (with_reducible refine below_drewN ?_ _) | ((with_reducible refine Below.alloc ?_ ?_ _); rotate_left; focus (go_size; done)) | ((with_reducible refine Below.setCell ?_ ?_ _); rotate_left; focus (go_size; done)) | ((with_reducible refine Below.trans ?_ (Below.mono (by with_reducible assumption) ?_)); rotate_left; focus (go_size; done))))⟩
set_option maxHeartbeats 400000 in
theorem rname_any (k o : Int) (w : World) : Calls Try.prog 8 #[.agg #[.int .i64 k, .int .i64 o]] w fun e w' => e = .returned (.tuple #[.string ⟨(nameT k o).toArray⟩, .int .i64 (errT k o)]) ∧ Below w.heap.size w w' := by
  cases hf : formB k o
  · have e1 : nameT k o = [] := by simp [nameT, hf]
    have e2 : errT k o = 2 := by simp [errT, hf]
    rw [e1, e2]
    clear e1 e2
    go_enter Try.func8, Try.ntmps8
    go_wp2_with ((go_at_call 7; with_reducible refine (rform_any _ _ _).mono ?_); rintro _ w1 ⟨rfl, hb1⟩; have hb1s := hb1.size; (try simp only [World.size_alloc, World.size_setCell, World.size_drew] at hb1s); obtain ⟨hb1c, hb1f⟩ := bcell hb1; (try have : w.heap.size < w1.heap.size := by omega); (try have : w.heap.size + 1 < w1.heap.size := by omega); (try have : w.heap.size + 1 + 1 < w1.heap.size := by omega); (try have : w.heap.size + 1 + 1 + 1 < w1.heap.size := by omega))
    go_ret2
    exact ⟨rfl, by (repeat' (first | (with_reducible exact Below.refl _ _) | (with_reducible assumption) | (with_reducible refine Below.drew ?_) | (with_reducible refine below_drewN ?_ _) | ((with_reducible refine Below.alloc ?_ ?_ _); rotate_left; focus (go_size; done)) | ((with_reducible refine Below.setCell ?_ ?_ _); rotate_left; focus (go_size; done)) | ((with_reducible refine Below.trans ?_ (Below.mono (by with_reducible assumption) ?_)); rotate_left; focus (go_size; done))))⟩
  · have e1 : nameT k o = nameS (numB k o).toNat := by simp [nameT, hf]
    have e2 : errT k o = 0 := by simp [errT, hf]
    rw [e1, e2]
    clear e1 e2
    have h3 := fun W => named_any k o hf W
    generalize nameS (numB k o).toNat = q at *
    have HN := Lib.hid h3
    clear h3
    go_enter Try.func8, Try.ntmps8
    go_wp2_with (first
      | ((go_at_call 7; with_reducible refine (rform_any _ _ _).mono ?_); rintro _ w1 ⟨rfl, hb1⟩; have hb1s := hb1.size; (try simp only [World.size_alloc, World.size_setCell, World.size_drew] at hb1s); obtain ⟨hb1c, hb1f⟩ := bcell hb1; (try have : w.heap.size < w1.heap.size := by omega); (try have : w.heap.size + 1 < w1.heap.size := by omega); (try have : w.heap.size + 1 + 1 < w1.heap.size := by omega); (try have : w.heap.size + 1 + 1 + 1 < w1.heap.size := by omega))
      | ((go_at_call 17; with_reducible refine (HN.out _).mono ?_); rintro _ w2 ⟨rfl, hb2⟩; have hb2s := hb2.size; (try simp only [World.size_alloc, World.size_setCell, World.size_drew] at hb2s); obtain ⟨hb2c, hb2f⟩ := bcell hb2; (try have : w.heap.size < w2.heap.size := by omega); (try have : w.heap.size + 1 < w2.heap.size := by omega); (try have : w.heap.size + 1 + 1 < w2.heap.size := by omega); (try have : w.heap.size + 1 + 1 + 1 < w2.heap.size := by omega)))
    go_ret2
    exact ⟨rfl, by (repeat' (first | (with_reducible exact Below.refl _ _) | (with_reducible assumption) | (with_reducible refine Below.drew ?_) | (with_reducible refine below_drewN ?_ _) | ((with_reducible refine Below.alloc ?_ ?_ _); rotate_left; focus (go_size; done)) | ((with_reducible refine Below.setCell ?_ ?_ _); rotate_left; focus (go_size; done)) | ((with_reducible refine Below.trans ?_ (Below.mono (by with_reducible assumption) ?_)); rotate_left; focus (go_size; done))))⟩
set_option maxHeartbeats 400000 in
theorem name_any (k o : Int) (w : World) : Calls Try.prog 9 #[.agg #[.int .i64 k, .int .i64 o]] w fun e w' => e = .returned (.tuple #[.string ⟨(nameT k o).toArray⟩, .int .i64 (errT k o)]) ∧ Below w.heap.size w w' := by
  cases hf : formB k o
  · have e1 : nameT k o = [] := by simp [nameT, hf]
    have e2 : errT k o = 2 := by simp [errT, hf]
    rw [e1, e2]
    clear e1 e2
    go_enter Try.func9, Try.ntmps9
    go_wp2_with ((go_at_call 6; with_reducible refine (form_any _ _ _).mono ?_); rintro _ w1 ⟨rfl, hb1⟩; have hb1s := hb1.size; (try simp only [World.size_alloc, World.size_setCell, World.size_drew] at hb1s); obtain ⟨hb1c, hb1f⟩ := bcell hb1; (try have : w.heap.size < w1.heap.size := by omega); (try have : w.heap.size + 1 < w1.heap.size := by omega); (try have : w.heap.size + 1 + 1 < w1.heap.size := by omega); (try have : w.heap.size + 1 + 1 + 1 < w1.heap.size := by omega))
    go_ret2
    exact ⟨rfl, by (repeat' (first | (with_reducible exact Below.refl _ _) | (with_reducible assumption) | (with_reducible refine Below.drew ?_) | (with_reducible refine below_drewN ?_ _) | ((with_reducible refine Below.alloc ?_ ?_ _); rotate_left; focus (go_size; done)) | ((with_reducible refine Below.setCell ?_ ?_ _); rotate_left; focus (go_size; done)) | ((with_reducible refine Below.trans ?_ (Below.mono (by with_reducible assumption) ?_)); rotate_left; focus (go_size; done))))⟩
  · have e2 : errT k o = 0 := by simp [errT, hf]
    rw [e2]
    clear e2
    by_cases h5 : k = 5
    · subst h5
      have ho : 0 ≤ o ∧ o < 5 := by simpa [formB] using hf
      have e1 : nameT 5 o = listS ++ simpleS o.toNat ++ [62] := by
        have e : numB 5 o = 5 + o := by unfold numB; rw [if_neg (by omega), if_pos (by omega)]
        simp only [nameT, hf, if_true, e, nameS]
        rw [if_neg (by omega), show (5 + o).toNat - 5 = o.toNat by omega]
      rw [e1]
      have hs := fun W => simple_any o ho.1 ho.2 W
      have hq : (simpleS o.toNat).length ≤ 7 := simpleS_len _
      generalize simpleS o.toNat = q at *
      have HN := Lib.hid hs
      clear hs e1 ho
      go_enter Try.func9, Try.ntmps9
      go_wp2_with (first
        | ((go_at_call 6; with_reducible refine (form_any _ _ _).mono ?_); rintro _ w1 ⟨rfl, hb1⟩; have hb1s := hb1.size; (try simp only [World.size_alloc, World.size_setCell, World.size_drew] at hb1s); obtain ⟨hb1c, hb1f⟩ := bcell hb1; (try have : w.heap.size < w1.heap.size := by omega); (try have : w.heap.size + 1 < w1.heap.size := by omega); (try have : w.heap.size + 1 + 1 < w1.heap.size := by omega); (try have : w.heap.size + 1 + 1 + 1 < w1.heap.size := by omega))
        | ((go_at_call 18; with_reducible refine (HN.out _).mono ?_); rintro _ w2 ⟨rfl, hb2⟩; have hb2s := hb2.size; (try simp only [World.size_alloc, World.size_setCell, World.size_drew] at hb2s); obtain ⟨hb2c, hb2f⟩ := bcell hb2; (try have : w.heap.size < w2.heap.size := by omega); (try have : w.heap.size + 1 < w2.heap.size := by omega); (try have : w.heap.size + 1 + 1 < w2.heap.size := by omega); (try have : w.heap.size + 1 + 1 + 1 < w2.heap.size := by omega)))
      go_ret2
      refine ⟨?_, by (repeat' (first | (with_reducible exact Below.refl _ _) | (with_reducible assumption) | (with_reducible refine Below.drew ?_) | (with_reducible refine below_drewN ?_ _) | ((with_reducible refine Below.alloc ?_ ?_ _); rotate_left; focus (go_size; done)) | ((with_reducible refine Below.setCell ?_ ?_ _); rotate_left; focus (go_size; done)) | ((with_reducible refine Below.trans ?_ (Below.mono (by with_reducible assumption) ?_)); rotate_left; focus (go_size; done))))⟩
      show Ending.returned (.tuple #[.string _, _]) = _
      rw [show (⟨#[108, 105, 115, 116, 60]⟩ : ByteArray) = ⟨listS.toArray⟩ from rfl, show (⟨#[62]⟩ : ByteArray) = ⟨([62] : List UInt8).toArray⟩ from rfl, ByteArray.mk_append_mk, ByteArray.mk_append_mk]
      rfl
    · have h1 : 0 ≤ k ∧ k < 5 ∧ o = 0 := by simpa [formB, h5] using hf
      obtain ⟨h1, h2, rfl⟩ := h1
      have e1 : nameT k 0 = simpleS k.toNat := by
        have e : numB k 0 = k := by unfold numB; rw [if_pos (by omega)]
        simp only [nameT, hf, if_true, e, nameS]
        rw [if_pos (by omega)]
      rw [e1]
      have hs := fun W => simple_any k h1 h2 W
      generalize simpleS k.toNat = q at *
      have HN := Lib.hid hs
      have n5 : (k == 5) = false := by simp; omega
      clear hs e1 h5
      go_enter Try.func9, Try.ntmps9
      go_wp2_with (first
        | ((go_at_call 6; with_reducible refine (form_any _ _ _).mono ?_); rintro _ w1 ⟨rfl, hb1⟩; have hb1s := hb1.size; (try simp only [World.size_alloc, World.size_setCell, World.size_drew] at hb1s); obtain ⟨hb1c, hb1f⟩ := bcell hb1; (try have : w.heap.size < w1.heap.size := by omega); (try have : w.heap.size + 1 < w1.heap.size := by omega); (try have : w.heap.size + 1 + 1 < w1.heap.size := by omega); (try have : w.heap.size + 1 + 1 + 1 < w1.heap.size := by omega))
        | ((go_at_call 18; with_reducible refine (HN.out _).mono ?_); rintro _ w2 ⟨rfl, hb2⟩; have hb2s := hb2.size; (try simp only [World.size_alloc, World.size_setCell, World.size_drew] at hb2s); obtain ⟨hb2c, hb2f⟩ := bcell hb2; (try have : w.heap.size < w2.heap.size := by omega); (try have : w.heap.size + 1 < w2.heap.size := by omega); (try have : w.heap.size + 1 + 1 < w2.heap.size := by omega); (try have : w.heap.size + 1 + 1 + 1 < w2.heap.size := by omega)))
      go_ret2
      exact ⟨rfl, by (repeat' (first | (with_reducible exact Below.refl _ _) | (with_reducible assumption) | (with_reducible refine Below.drew ?_) | (with_reducible refine below_drewN ?_ _) | ((with_reducible refine Below.alloc ?_ ?_ _); rotate_left; focus (go_size; done)) | ((with_reducible refine Below.setCell ?_ ?_ _); rotate_left; focus (go_size; done)) | ((with_reducible refine Below.trans ?_ (Below.mono (by with_reducible assumption) ?_)); rotate_left; focus (go_size; done))))⟩
end Go.Proofs.Ytmfkhmlpikdmeaa
