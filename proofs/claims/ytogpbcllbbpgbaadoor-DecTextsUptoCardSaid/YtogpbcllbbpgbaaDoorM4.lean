/- The contracts of the functions that the law reaches, part 4: what each returns and what becomes of memory. -/
import Derived.Test.YtogpbcllbbpgbaaDoorSh2
import Derived.Lib.IndexLaws
import Derived.Deep.DeepCutAuto
import Derived.ProofKit
import Derived.OpenShut
import Derived.ShutString
import Derived.ChangeOld
import Derived.Below
import Derived.Lib.SmallJoins
import Derived.Test.YtogpbcllbbpgbaaDoorM2
import Derived.Test.YtogpbcllbbpgbaaDoorM3
set_option linter.unusedSimpArgs false
set_option linter.unusedVariables false
namespace Go.Proofs.YtogpbcllbbpgbaaDoor
open Go.RowKit

def digS : List UInt8 := [48, 49, 50, 51, 52, 53, 54, 55, 56, 57]
theorem isD_digS (c : UInt8) : digS.contains c = isD c := by
  have key : ∀ n : Fin 256, digS.contains (UInt8.ofNat n.val) = isD (UInt8.ofNat n.val) := by decide +kernel
  have := key ⟨c.toNat, c.toNat_lt⟩
  simpa using this
theorem dropW_nil {p : UInt8 → Bool} : ∀ {l : List UInt8}, l.dropWhile p = [] ↔ ∀ c ∈ l, p c = true
  | [] => by simp
  | d :: r => by
    rw [List.dropWhile_cons]
    cases h : p d with
    | true =>
      simp only [if_true]
      rw [dropW_nil, List.forall_mem_cons]
      exact ⟨fun q => ⟨h, q⟩, fun q => q.2⟩
    | false => simp [h]
theorem trimS_nil (l : List UInt8) : (Lib.trimS l digS = []) ↔ l.all isD = true := by
  have e : (fun c : UInt8 => digS.contains c) = isD := funext isD_digS
  unfold Lib.trimS Lib.trimLeftS Lib.trimRightS
  rw [e]
  constructor
  · intro h
    rw [List.all_eq_true]
    have h1 : ∀ c ∈ (l.reverse.dropWhile isD).reverse, isD c = true := by
      intro c hc
      have := dropW_nil.1 h c hc
      exact this
    have h2 : l.reverse.dropWhile isD = [] := by
      cases hd : l.reverse.dropWhile isD with
      | nil => rfl
      | cons c r =>
        exfalso
        have h3 := List.head?_dropWhile_not isD l.reverse
        rw [hd] at h3 h1
        have h4 := h1 c (by simp)
        simp [h4] at h3
    intro c hc
    exact dropW_nil.1 h2 c (by simpa using hc)
  · intro h
    rw [List.all_eq_true] at h
    have h2 : l.reverse.dropWhile isD = [] := dropW_nil.2 fun c hc => h c (by simpa using hc)
    rw [h2]; rfl
theorem digS_low : ∀ b ∈ digS, b.toNat < 128 := by decide
theorem trimd (l : List UInt8) (hl : l.length ≤ 9223372036854775807) (w : World) : Calls Tryd.prog 33 #[.string ⟨l.toArray⟩, .string ⟨#[48, 49, 50, 51, 52, 53, 54, 55, 56, 57]⟩] w fun e w' => e = .returned (.string ⟨(Lib.trimS l digS).toArray⟩) ∧ Below w.heap.size w w' :=
  (Tryd.strings_Trim_ascii ⟨l.toArray⟩ ⟨digS.toArray⟩ w (by simpa [ByteArray.size] using hl) (by decide) (by
    intro j b hj
    have hb : b ∈ digS := List.mem_of_getElem? (by simpa using hj)
    exact digS_low b hb)).mono fun e w' h => by
    obtain ⟨h1, h2⟩ := h
    exact ⟨by simpa using h1, h2⟩
set_option maxHeartbeats 1000000 in
theorem number_any (l : List UInt8) (hl : l.length ≤ 9223372036854775807) (w : World) : Calls Tryd.prog 15 #[.string ⟨l.toArray⟩] w fun e w' => e = .returned (.bool (isDs l)) ∧ Below w.heap.size w w' := by
  have HT := Lib.hid (fun W => trimd l hl W)
  by_cases h0 : l = []
  · subst h0
    clear HT
    go_enter Tryd.func15, Tryd.ntmps15
    go_wp2_with fail
    go_ret
    exact ⟨rfl, by (repeat' (first | (with_reducible exact Below.refl _ _) | (with_reducible assumption) | (with_reducible refine Below.drew ?_) | (with_reducible refine below_drewN ?_ _) | ((with_reducible refine Below.alloc ?_ ?_ _); rotate_left; focus (go_size; done)) | ((with_reducible refine Below.setCell ?_ ?_ _); rotate_left; focus (go_size; done)) | ((with_reducible refine Below.trans ?_ (Below.mono (by with_reducible assumption) ?_)); rotate_left; focus (go_size; done))))⟩
  · obtain ⟨t, ht⟩ : ∃ t, t = Lib.trimS l digS := ⟨_, rfl⟩
    have HV : Hid (isDs l = (t == [])) := Lib.hid (by
      unfold isDs
      rw [decide_eq_true h0, Bool.true_and, Bool.eq_iff_iff, ← trimS_nil, ht]
      simp)
    rw [← ht] at HT
    have e1 : (l == []) = false := by simpa using h0
    have e2 : (l != []) = true := by simpa using h0
    have e3 : l.isEmpty = false := by simpa using h0
    clear ht
    rw [HV.out]
    by_cases ht : t = []
    · subst ht
      go_enter Tryd.func15, Tryd.ntmps15
      go_wp2_with ((go_at_call 33; with_reducible refine (HT.out _).mono ?_); rintro _ w1 ⟨rfl, hb1⟩; have hb1s := hb1.size; (try simp only [World.size_alloc, World.size_setCell, World.size_drew, World.heap_drewN] at hb1s); obtain ⟨hb1c, hb1f⟩ := bcell hb1; (try have : w.heap.size < w1.heap.size := by omega); (try have : w.heap.size + 1 < w1.heap.size := by omega); (try have : w.heap.size + 1 + 1 < w1.heap.size := by omega); (try have : w.heap.size + 1 + 1 + 1 < w1.heap.size := by omega))
      go_ret
      exact ⟨rfl, by (repeat' (first | (with_reducible exact Below.refl _ _) | (with_reducible assumption) | (with_reducible refine Below.drew ?_) | (with_reducible refine below_drewN ?_ _) | ((with_reducible refine Below.alloc ?_ ?_ _); rotate_left; focus (go_size; done)) | ((with_reducible refine Below.setCell ?_ ?_ _); rotate_left; focus (go_size; done)) | ((with_reducible refine Below.trans ?_ (Below.mono (by with_reducible assumption) ?_)); rotate_left; focus (go_size; done))))⟩
    · have f1 : (t == []) = false := by simpa using ht
      have f3 : t.isEmpty = false := by simpa using ht
      rw [f1]
      go_enter Tryd.func15, Tryd.ntmps15
      go_wp2_with ((go_at_call 33; with_reducible refine (HT.out _).mono ?_); rintro _ w1 ⟨rfl, hb1⟩; have hb1s := hb1.size; (try simp only [World.size_alloc, World.size_setCell, World.size_drew, World.heap_drewN] at hb1s); obtain ⟨hb1c, hb1f⟩ := bcell hb1; (try have : w.heap.size < w1.heap.size := by omega); (try have : w.heap.size + 1 < w1.heap.size := by omega); (try have : w.heap.size + 1 + 1 < w1.heap.size := by omega); (try have : w.heap.size + 1 + 1 + 1 < w1.heap.size := by omega))
      go_ret
      exact ⟨rfl, by (repeat' (first | (with_reducible exact Below.refl _ _) | (with_reducible assumption) | (with_reducible refine Below.drew ?_) | (with_reducible refine below_drewN ?_ _) | ((with_reducible refine Below.alloc ?_ ?_ _); rotate_left; focus (go_size; done)) | ((with_reducible refine Below.setCell ?_ ?_ _); rotate_left; focus (go_size; done)) | ((with_reducible refine Below.trans ?_ (Below.mono (by with_reducible assumption) ?_)); rotate_left; focus (go_size; done))))⟩
end Go.Proofs.YtogpbcllbbpgbaaDoor

set_option linter.unusedSimpArgs false
set_option linter.unusedVariables false
namespace Go.Proofs.YtogpbcllbbpgbaaDoor
open Go.RowKit

theorem dot_at (l : List UInt8) : (Lib.indexByte l 46 = -1 ∧ ahead l = l ∧ behind l = [] ∧ hasDot l = false) ∨ ∃ i : Nat, Lib.indexByte l 46 = i ∧ i < l.length ∧ ahead l = l.take i ∧ behind l = l.drop (i + 1) ∧ hasDot l = true := by
  induction l with
  | nil => exact .inl ⟨rfl, rfl, rfl, rfl⟩
  | cons d r ih =>
    by_cases hd : d = 46
    · subst hd
      exact .inr ⟨0, rfl, by simp, rfl, rfl, rfl⟩
    · have h1 : (d == 46) = false := by simpa using hd
      have h2 : (d != 46) = true := by simpa using hd
      have ea : ahead (d :: r) = d :: ahead r := by unfold ahead; rw [List.takeWhile_cons, h2]; rfl
      have eb : behind (d :: r) = behind r := by unfold behind; rw [List.dropWhile_cons, h2]; rfl
      have ec : hasDot (d :: r) = hasDot r := by
        unfold hasDot
        rw [Bool.eq_iff_iff]
        simp [Ne.symm hd]
      rw [ea, eb, ec]
      unfold Lib.indexByte
      rw [h1]
      rcases ih with ⟨i1, i2, i3, i4⟩ | ⟨i, i1, i2, i3, i4, i5⟩
      · left
        rw [i1, i2]
        exact ⟨rfl, rfl, i3, i4⟩
      · right
        refine ⟨i + 1, ?_, by simpa using i2, (by rw [i3]; try rfl), (by rw [i4]; try rfl), i5⟩
        rw [i1]
        have : ((i : Int) == -1) = false := by rw [beq_eq_false_iff_ne]; omega
        simp only [this]
        simp
theorem idx_one (l : List UInt8) (w : World) : Calls Tryd.prog 63 #[.string ⟨l.toArray⟩, .string ⟨#[46]⟩] w fun e w' => e = .returned (.int .i64 (Lib.indexByte l 46)) ∧ Below w.heap.size w w' :=
  (Tryd.stringslite_Index_one ⟨l.toArray⟩ 46 w).mono fun e w' h => by
    obtain ⟨h1, h2⟩ := h
    subst h2
    exact ⟨by simpa using h1, Below.refl _ _⟩
theorem ext_upto (l : List UInt8) (i : Nat) : (⟨l.toArray⟩ : ByteArray).extract 0 i = ⟨(l.take i).toArray⟩ := by rw [Lib.extract_mk]; simp
theorem ext_from (l : List UInt8) (i : Nat) : (⟨l.toArray⟩ : ByteArray).extract i l.length = ⟨(l.drop i).toArray⟩ := by
  rw [Lib.extract_mk, List.take_of_length_le (by simp)]
set_option maxHeartbeats 1000000 in
theorem lcut_any (l : List UInt8) (hl : l.length ≤ 9223372036854775807) (w : World) : Calls Tryd.prog 32 #[.string ⟨l.toArray⟩, .string ⟨#[46]⟩] w fun e w' => e = .returned (.tuple #[.string ⟨(ahead l).toArray⟩, .string ⟨(behind l).toArray⟩, .bool (hasDot l)]) ∧ Below w.heap.size w w' := by
  have HI := Lib.hid (fun W => idx_one l W)
  have hsz : (⟨l.toArray⟩ : ByteArray).size = l.length := Lib.size_mk l
  rcases dot_at l with ⟨i1, i2, i3, i4⟩ | ⟨i, i1, i2, i3, i4, i5⟩
  · rw [i1] at HI
    rw [i2, i3, i4]
    clear i1 i2 i3 i4 hsz
    go_enter Tryd.func32, Tryd.ntmps32
    go_wp2_with ((go_at_call 63; with_reducible refine (HI.out _).mono ?_); rintro _ w1 ⟨rfl, hb1⟩; have hb1s := hb1.size; (try simp only [World.size_alloc, World.size_setCell, World.size_drew, World.heap_drewN] at hb1s); obtain ⟨hb1c, hb1f⟩ := bcell hb1; (try have : w.heap.size < w1.heap.size := by omega); (try have : w.heap.size + 1 < w1.heap.size := by omega); (try have : w.heap.size + 1 + 1 < w1.heap.size := by omega); (try have : w.heap.size + 1 + 1 + 1 < w1.heap.size := by omega))
    go_ret3
    exact ⟨rfl, by (repeat' (first | (with_reducible exact Below.refl _ _) | (with_reducible assumption) | (with_reducible refine Below.drew ?_) | (with_reducible refine below_drewN ?_ _) | ((with_reducible refine Below.alloc ?_ ?_ _); rotate_left; focus (go_size; done)) | ((with_reducible refine Below.setCell ?_ ?_ _); rotate_left; focus (go_size; done)) | ((with_reducible refine Below.trans ?_ (Below.mono (by with_reducible assumption) ?_)); rotate_left; focus (go_size; done))))⟩
  · rw [i1] at HI
    rw [i3, i4, i5, ← ext_upto, ← ext_from]
    have c1 : (0 : Int) ≤ (i : Int) := by omega
    have c2 : (i : Int) ≤ (l.length : Int) := by omega
    have c3 : (0 : Int) ≤ (i : Int) + 1 := by omega
    have c4 : (i : Int) + 1 ≤ (l.length : Int) := by omega
    have hsz2 : (#[46] : Array UInt8).size = 1 := rfl
    clear i1 i3 i4 i5
    go_enter Tryd.func32, Tryd.ntmps32
    go_wp2_with ((go_at_call 63; with_reducible refine (HI.out _).mono ?_); rintro _ w1 ⟨rfl, hb1⟩; have hb1s := hb1.size; (try simp only [World.size_alloc, World.size_setCell, World.size_drew, World.heap_drewN] at hb1s); obtain ⟨hb1c, hb1f⟩ := bcell hb1; (try have : w.heap.size < w1.heap.size := by omega); (try have : w.heap.size + 1 < w1.heap.size := by omega); (try have : w.heap.size + 1 + 1 < w1.heap.size := by omega); (try have : w.heap.size + 1 + 1 + 1 < w1.heap.size := by omega))
    go_region
    go_wp2_with fail
    go_ret3
    exact ⟨rfl, by (repeat' (first | (with_reducible exact Below.refl _ _) | (with_reducible assumption) | (with_reducible refine Below.drew ?_) | (with_reducible refine below_drewN ?_ _) | ((with_reducible refine Below.alloc ?_ ?_ _); rotate_left; focus (go_size; done)) | ((with_reducible refine Below.setCell ?_ ?_ _); rotate_left; focus (go_size; done)) | ((with_reducible refine Below.trans ?_ (Below.mono (by with_reducible assumption) ?_)); rotate_left; focus (go_size; done))))⟩
theorem minus_pre (l : List UInt8) : Lib.trimPrefix l [45] = past l ∧ Lib.hasPrefix l [45] = minus1 l := by
  have e : Lib.hasPrefix l [45] = minus1 l := by
    unfold Lib.hasPrefix minus1
    cases l with
    | nil => rfl
    | cons c r =>
      rw [Bool.eq_iff_iff]
      simp
      try exact eq_comm
  refine ⟨?_, e⟩
  unfold Lib.trimPrefix past
  rw [e]; rfl
theorem pre_any (l : List UInt8) (w : World) : Calls Tryd.prog 13 #[.string ⟨l.toArray⟩, .string ⟨#[45]⟩] w fun e w' => e = .returned (.tuple #[.string ⟨(past l).toArray⟩, .bool (minus1 l)]) ∧ Below w.heap.size w w' :=
  (Tryd.strings_CutPrefix ⟨l.toArray⟩ ⟨#[45]⟩ w).mono fun e w' h => by
    obtain ⟨h1, h2⟩ := h
    subst h2
    rw [← (minus_pre l).1, ← (minus_pre l).2]
    exact ⟨by simpa using h1, Below.refl _ _⟩
theorem tr_any (l : List UInt8) (hl : l.length ≤ 9223372036854775807) (w : World) : Calls Tryd.prog 16 #[.string ⟨l.toArray⟩, .string ⟨#[48]⟩] w fun e w' => e = .returned (.string ⟨(rt0 l).toArray⟩) ∧ Below w.heap.size w w' :=
  (Tryd.strings_TrimRight_one ⟨l.toArray⟩ 48 (by decide) w (by simpa [ByteArray.size] using hl)).mono fun e w' h => by
    obtain ⟨h1, h2⟩ := h
    subst h2
    exact ⟨by unfold rt0; simpa using h1, Below.refl _ _⟩
theorem tl_any (l : List UInt8) (w : World) : Calls Tryd.prog 17 #[.string ⟨l.toArray⟩, .string ⟨#[48]⟩] w fun e w' => e = .returned (.string ⟨(lt0 l).toArray⟩) ∧ Below w.heap.size w w' :=
  (Tryd.strings_TrimLeft_one ⟨l.toArray⟩ 48 (by decide) w).mono fun e w' h => by
    obtain ⟨h1, h2⟩ := h
    subst h2
    exact ⟨by unfold lt0; simpa using h1, Below.refl _ _⟩
theorem past_len (l : List UInt8) : (past l).length ≤ l.length := by
  unfold past; split
  · rw [List.length_drop]; omega
  · exact Nat.le_refl _
theorem ahead_len (l : List UInt8) : (ahead l).length ≤ l.length := (List.takeWhile_sublist _).length_le
theorem behind_len (l : List UInt8) : (behind l).length ≤ l.length := by
  unfold behind
  rw [List.length_drop]
  have := (List.dropWhile_sublist (· != (46 : UInt8)) (l := l)).length_le
  omega
theorem both_len (l : List UInt8) : (ahead l).length + (behind l).length ≤ l.length := by
  have h := congrArg List.length (List.takeWhile_append_dropWhile (p := (· != (46 : UInt8))) (l := l))
  unfold ahead behind
  rw [List.length_append] at h
  rw [List.length_drop]; omega
/-- what Parse hands back -/
def DPost (r : Bool × Nat × Nat × Int) (w : World) (e : Ending) (w' : World) : Prop := e = .returned (.tuple #[.agg #[.bool r.1, .int .u64 (wd (r.2.1) 1), .int .u64 (wd (r.2.1) 0), .int .i64 (r.2.2.1 : Int)], .int .i64 r.2.2.2]) ∧ Below w.heap.size w w'
def parS1 (neg : Bool) (a b : List UInt8) : Bool × Nat × Nat × Int := if dvb (a ++ b) 0 = 0 then (false, 0, 0, if neg = true then 5 else 0) else if 18 < b.length ∨ ¬ dvb (a ++ b) 0 < B34 then (false, 0, 0, 3) else (neg, dvb (a ++ b) 0, b.length, 0)
theorem parS_no {neg : Bool} {a b : List UInt8} {dt : Bool} (h : ¬ (isDs a = true ∧ ¬ (1 < a.length ∧ (a.headD 0).toNat = 48) ∧ (dt = true → isDs b = true))) : parS neg a b dt = (false, 0, 0, 5) := if_neg h
theorem parS_yes {neg : Bool} {a b : List UInt8} {dt : Bool} (h : isDs a = true ∧ ¬ (1 < a.length ∧ (a.headD 0).toNat = 48) ∧ (dt = true → isDs b = true)) : parS neg a b dt = parS1 neg a (rt0 b) := if_pos h
end Go.Proofs.YtogpbcllbbpgbaaDoor

set_option linter.unusedSimpArgs false
set_option linter.unusedVariables false
namespace Go.Proofs.YtogpbcllbbpgbaaDoor
open Go.RowKit

theorem cat_mk (a b : List UInt8) : (⟨a.toArray⟩ : ByteArray) ++ ⟨b.toArray⟩ = ⟨(a ++ b).toArray⟩ := by
  apply ByteArray.ext
  rw [ByteArray.data_append]
  simp
theorem w0_0 : wd 0 0 = 0 := wd_zero 0
theorem w0_1 : wd 0 1 = 0 := wd_zero 1
set_option maxRecDepth 100000 in
set_option maxHeartbeats 4000000 in
theorem parse_any (l : List UInt8) (hl : l.length ≤ 9223372036854775807) (w : World) : Calls Tryd.prog 6 #[.string ⟨l.toArray⟩] w (DPost (parD l) w) := by
  obtain ⟨R, hR⟩ : ∃ R, R = parD l := ⟨_, rfl⟩
  have HR : Hid (R = parS (minus1 l) (ahead (past l)) (behind (past l)) (hasDot (past l))) := Lib.hid hR
  rw [← hR]
  clear hR
  have HP := Lib.hid (fun W => pre_any l W)
  have hm := past_len l
  obtain ⟨m, hm'⟩ : ∃ m, m = past l := ⟨_, rfl⟩
  rw [← hm'] at HP HR hm
  have hml : m.length ≤ 9223372036854775807 := Nat.le_trans hm hl
  have HC := Lib.hid (fun W => lcut_any m hml W)
  have hab := both_len m
  have hsm : (ahead m).length + (behind m).length ≤ 9223372036854775807 := Nat.le_trans hab hml
  obtain ⟨neg, hneg⟩ : ∃ neg, neg = minus1 l := ⟨_, rfl⟩
  obtain ⟨a, ha⟩ : ∃ a, a = ahead m := ⟨_, rfl⟩
  obtain ⟨b, hb⟩ : ∃ b, b = behind m := ⟨_, rfl⟩
  obtain ⟨dt, hdt⟩ : ∃ dt, dt = hasDot m := ⟨_, rfl⟩
  rw [← hneg] at HP HR
  rw [← ha, ← hb, ← hdt] at HC
  rw [← ha, ← hb, ← hdt] at HR
  rw [← ha, ← hb] at hab hsm
  have ham : a.length ≤ 9223372036854775807 := by omega
  have hbm : b.length ≤ 9223372036854775807 := by omega
  have HNA := Lib.hid (fun W => number_any a ham W)
  have HNB := Lib.hid (fun W => number_any b hbm W)
  have HTR := Lib.hid (fun W => tr_any b hbm W)
  have HB0 : Hid (dt = false → b = []) := Lib.hid (by
    intro h
    rw [hb]
    rcases dot_at m with ⟨_, _, q, _⟩ | ⟨_, _, _, _, _, q⟩
    · exact q
    · rw [← hdt, h] at q; exact Bool.noConfusion q)
  clear hneg ha hb hdt hm' hm hml
  unfold DPost
  cases hda : isDs a with
  | false =>
    rw [hda] at HNA
    have hr : R = (false, 0, 0, 5) := by rw [HR.out, parS_no (fun h => by rw [hda] at h; exact Bool.noConfusion h.1)]
    subst hr
    dsimp only
    rw [w0_0, w0_1]
    clear HR hda
    go_enter Tryd.func6, Tryd.ntmps6
    go_wp2_with (first | ((go_at_call 13; with_reducible refine (HP.out _).mono ?_); rintro _ w1 ⟨rfl, hb1⟩; have hb1s := hb1.size; (try simp only [World.size_alloc, World.size_setCell, World.size_drew, World.heap_drewN] at hb1s); obtain ⟨hb1c, hb1f⟩ := bcell hb1; (try have : w.heap.size < w1.heap.size := by omega); (try have : w.heap.size + 1 < w1.heap.size := by omega); (try have : w.heap.size + 1 + 1 < w1.heap.size := by omega); (try have : w.heap.size + 1 + 1 + 1 < w1.heap.size := by omega)) | ((go_at_call 32; with_reducible refine (HC.out _).mono ?_); rintro _ w2 ⟨rfl, hb2⟩; have hb2s := hb2.size; (try simp only [World.size_alloc, World.size_setCell, World.size_drew, World.heap_drewN] at hb2s); obtain ⟨hb2c, hb2f⟩ := bcell hb2; (try have : w.heap.size < w2.heap.size := by omega); (try have : w.heap.size + 1 < w2.heap.size := by omega); (try have : w.heap.size + 1 + 1 < w2.heap.size := by omega); (try have : w.heap.size + 1 + 1 + 1 < w2.heap.size := by omega); (try have : w1.heap.size < w2.heap.size := by omega); (try have : w1.heap.size + 1 < w2.heap.size := by omega); (try have : w1.heap.size + 1 + 1 < w2.heap.size := by omega); (try have : w1.heap.size + 1 + 1 + 1 < w2.heap.size := by omega)) | (go_at_call 14; go_in) | ((go_at_call 15; with_reducible refine (HNA.out _).mono ?_); rintro _ w3 ⟨rfl, hb3⟩; have hb3s := hb3.size; (try simp only [World.size_alloc, World.size_setCell, World.size_drew, World.heap_drewN] at hb3s); obtain ⟨hb3c, hb3f⟩ := bcell hb3; (try have : w.heap.size < w3.heap.size := by omega); (try have : w.heap.size + 1 < w3.heap.size := by omega); (try have : w.heap.size + 1 + 1 < w3.heap.size := by omega); (try have : w.heap.size + 1 + 1 + 1 < w3.heap.size := by omega); (try have : w1.heap.size < w3.heap.size := by omega); (try have : w1.heap.size + 1 < w3.heap.size := by omega); (try have : w1.heap.size + 1 + 1 < w3.heap.size := by omega); (try have : w1.heap.size + 1 + 1 + 1 < w3.heap.size := by omega); (try have : w2.heap.size < w3.heap.size := by omega); (try have : w2.heap.size + 1 < w3.heap.size := by omega); (try have : w2.heap.size + 1 + 1 < w3.heap.size := by omega); (try have : w2.heap.size + 1 + 1 + 1 < w3.heap.size := by omega)))
    refine bodyPost_ret (by simp [results, Tryd.results6, go_sem, *]; try rfl) rfl ?_
    exact ⟨rfl, by (repeat' (first | (with_reducible exact Below.refl _ _) | (with_reducible assumption) | (with_reducible refine Below.drew ?_) | (with_reducible refine below_drewN ?_ _) | ((with_reducible refine Below.alloc ?_ ?_ _); rotate_left; focus (go_size; done)) | ((with_reducible refine Below.setCell ?_ ?_ _); rotate_left; focus (go_size; done)) | ((with_reducible refine Below.trans ?_ (Below.mono (by with_reducible assumption) ?_)); rotate_left; focus (go_size; done))))⟩
  | true =>
    rw [hda] at HNA
    have hne : a ≠ [] := by rintro rfl; exact Bool.noConfusion hda
    have h0 : 0 < a.length := List.length_pos_iff.2 hne
    have hz0 : 0 < (⟨a.toArray⟩ : ByteArray).size := by rw [Lib.size_mk]; exact h0
    have hhd : ((⟨a.toArray⟩ : ByteArray)[0]'hz0).toNat = (a.headD 0).toNat := by
      cases a with
      | nil => exact absurd rfl hne
      | cons c r => rfl
    by_cases h1 : 1 < a.length ∧ (a.headD 0).toNat = 48
    · have h1' : (1 : Int) < (a.length : Int) := by omega
      have e5 : ((((⟨a.toArray⟩ : ByteArray)[0]'hz0).toNat : Int) == 48) = true := by rw [hhd, h1.2]; rfl
      clear hhd hne
      have hr : R = (false, 0, 0, 5) := by rw [HR.out, parS_no (fun h => h.2.1 h1)]
      subst hr
      dsimp only
      rw [w0_0, w0_1]
      clear HR hda h1
      go_enter Tryd.func6, Tryd.ntmps6
      go_wp2_with (first | ((go_at_call 13; with_reducible refine (HP.out _).mono ?_); rintro _ w1 ⟨rfl, hb1⟩; have hb1s := hb1.size; (try simp only [World.size_alloc, World.size_setCell, World.size_drew, World.heap_drewN] at hb1s); obtain ⟨hb1c, hb1f⟩ := bcell hb1; (try have : w.heap.size < w1.heap.size := by omega); (try have : w.heap.size + 1 < w1.heap.size := by omega); (try have : w.heap.size + 1 + 1 < w1.heap.size := by omega); (try have : w.heap.size + 1 + 1 + 1 < w1.heap.size := by omega)) | ((go_at_call 32; with_reducible refine (HC.out _).mono ?_); rintro _ w2 ⟨rfl, hb2⟩; have hb2s := hb2.size; (try simp only [World.size_alloc, World.size_setCell, World.size_drew, World.heap_drewN] at hb2s); obtain ⟨hb2c, hb2f⟩ := bcell hb2; (try have : w.heap.size < w2.heap.size := by omega); (try have : w.heap.size + 1 < w2.heap.size := by omega); (try have : w.heap.size + 1 + 1 < w2.heap.size := by omega); (try have : w.heap.size + 1 + 1 + 1 < w2.heap.size := by omega); (try have : w1.heap.size < w2.heap.size := by omega); (try have : w1.heap.size + 1 < w2.heap.size := by omega); (try have : w1.heap.size + 1 + 1 < w2.heap.size := by omega); (try have : w1.heap.size + 1 + 1 + 1 < w2.heap.size := by omega)) | (go_at_call 14; go_in) | ((go_at_call 15; with_reducible refine (HNA.out _).mono ?_); rintro _ w3 ⟨rfl, hb3⟩; have hb3s := hb3.size; (try simp only [World.size_alloc, World.size_setCell, World.size_drew, World.heap_drewN] at hb3s); obtain ⟨hb3c, hb3f⟩ := bcell hb3; (try have : w.heap.size < w3.heap.size := by omega); (try have : w.heap.size + 1 < w3.heap.size := by omega); (try have : w.heap.size + 1 + 1 < w3.heap.size := by omega); (try have : w.heap.size + 1 + 1 + 1 < w3.heap.size := by omega); (try have : w1.heap.size < w3.heap.size := by omega); (try have : w1.heap.size + 1 < w3.heap.size := by omega); (try have : w1.heap.size + 1 + 1 < w3.heap.size := by omega); (try have : w1.heap.size + 1 + 1 + 1 < w3.heap.size := by omega); (try have : w2.heap.size < w3.heap.size := by omega); (try have : w2.heap.size + 1 < w3.heap.size := by omega); (try have : w2.heap.size + 1 + 1 < w3.heap.size := by omega); (try have : w2.heap.size + 1 + 1 + 1 < w3.heap.size := by omega)))
      refine bodyPost_ret (by simp [results, Tryd.results6, go_sem, *]; try rfl) rfl ?_
      exact ⟨rfl, by (repeat' (first | (with_reducible exact Below.refl _ _) | (with_reducible assumption) | (with_reducible refine Below.drew ?_) | (with_reducible refine below_drewN ?_ _) | ((with_reducible refine Below.alloc ?_ ?_ _); rotate_left; focus (go_size; done)) | ((with_reducible refine Below.setCell ?_ ?_ _); rotate_left; focus (go_size; done)) | ((with_reducible refine Below.trans ?_ (Below.mono (by with_reducible assumption) ?_)); rotate_left; focus (go_size; done))))⟩
    · have hnz : (a.length : Int) ≤ 1 ∨ ((1 : Int) < (a.length : Int) ∧ ((((⟨a.toArray⟩ : ByteArray)[0]'hz0).toNat : Int) == 48) = false) := by
        by_cases h2 : 1 < a.length
        · right
          refine ⟨by omega, ?_⟩
          rw [hhd, beq_eq_false_iff_ne]
          intro e
          exact h1 ⟨h2, by omega⟩
        · left; omega
      by_cases hdb : dt = true ∧ isDs b = false
      · obtain ⟨rfl, hdb⟩ := hdb
        have hr : R = (false, 0, 0, 5) := by rw [HR.out, parS_no (fun h => by have := h.2.2 rfl; rw [hdb] at this; exact Bool.noConfusion this)]
        subst hr
        dsimp only
        rw [w0_0, w0_1]
        rw [hdb] at HNB
        clear HR hda hdb h1 hhd hne
        rcases hnz with h2 | ⟨h2, h3⟩
        · have h2' : ¬ (1 : Int) < (a.length : Int) := by omega
          go_enter Tryd.func6, Tryd.ntmps6
          go_wp2_with (first | ((go_at_call 13; with_reducible refine (HP.out _).mono ?_); rintro _ w1 ⟨rfl, hb1⟩; have hb1s := hb1.size; (try simp only [World.size_alloc, World.size_setCell, World.size_drew, World.heap_drewN] at hb1s); obtain ⟨hb1c, hb1f⟩ := bcell hb1; (try have : w.heap.size < w1.heap.size := by omega); (try have : w.heap.size + 1 < w1.heap.size := by omega); (try have : w.heap.size + 1 + 1 < w1.heap.size := by omega); (try have : w.heap.size + 1 + 1 + 1 < w1.heap.size := by omega)) | ((go_at_call 32; with_reducible refine (HC.out _).mono ?_); rintro _ w2 ⟨rfl, hb2⟩; have hb2s := hb2.size; (try simp only [World.size_alloc, World.size_setCell, World.size_drew, World.heap_drewN] at hb2s); obtain ⟨hb2c, hb2f⟩ := bcell hb2; (try have : w.heap.size < w2.heap.size := by omega); (try have : w.heap.size + 1 < w2.heap.size := by omega); (try have : w.heap.size + 1 + 1 < w2.heap.size := by omega); (try have : w.heap.size + 1 + 1 + 1 < w2.heap.size := by omega); (try have : w1.heap.size < w2.heap.size := by omega); (try have : w1.heap.size + 1 < w2.heap.size := by omega); (try have : w1.heap.size + 1 + 1 < w2.heap.size := by omega); (try have : w1.heap.size + 1 + 1 + 1 < w2.heap.size := by omega)) | (go_at_call 14; go_in) | ((go_at_call 15; with_reducible refine (HNA.out _).mono ?_); rintro _ w3 ⟨rfl, hb3⟩; have hb3s := hb3.size; (try simp only [World.size_alloc, World.size_setCell, World.size_drew, World.heap_drewN] at hb3s); obtain ⟨hb3c, hb3f⟩ := bcell hb3; (try have : w.heap.size < w3.heap.size := by omega); (try have : w.heap.size + 1 < w3.heap.size := by omega); (try have : w.heap.size + 1 + 1 < w3.heap.size := by omega); (try have : w.heap.size + 1 + 1 + 1 < w3.heap.size := by omega); (try have : w1.heap.size < w3.heap.size := by omega); (try have : w1.heap.size + 1 < w3.heap.size := by omega); (try have : w1.heap.size + 1 + 1 < w3.heap.size := by omega); (try have : w1.heap.size + 1 + 1 + 1 < w3.heap.size := by omega); (try have : w2.heap.size < w3.heap.size := by omega); (try have : w2.heap.size + 1 < w3.heap.size := by omega); (try have : w2.heap.size + 1 + 1 < w3.heap.size := by omega); (try have : w2.heap.size + 1 + 1 + 1 < w3.heap.size := by omega)) | ((go_at_call 15; with_reducible refine (HNB.out _).mono ?_); rintro _ w4 ⟨rfl, hb4⟩; have hb4s := hb4.size; (try simp only [World.size_alloc, World.size_setCell, World.size_drew, World.heap_drewN] at hb4s); obtain ⟨hb4c, hb4f⟩ := bcell hb4; (try have : w.heap.size < w4.heap.size := by omega); (try have : w.heap.size + 1 < w4.heap.size := by omega); (try have : w.heap.size + 1 + 1 < w4.heap.size := by omega); (try have : w.heap.size + 1 + 1 + 1 < w4.heap.size := by omega); (try have : w1.heap.size < w4.heap.size := by omega); (try have : w1.heap.size + 1 < w4.heap.size := by omega); (try have : w1.heap.size + 1 + 1 < w4.heap.size := by omega); (try have : w1.heap.size + 1 + 1 + 1 < w4.heap.size := by omega); (try have : w2.heap.size < w4.heap.size := by omega); (try have : w2.heap.size + 1 < w4.heap.size := by omega); (try have : w2.heap.size + 1 + 1 < w4.heap.size := by omega); (try have : w2.heap.size + 1 + 1 + 1 < w4.heap.size := by omega); (try have : w3.heap.size < w4.heap.size := by omega); (try have : w3.heap.size + 1 < w4.heap.size := by omega); (try have : w3.heap.size + 1 + 1 < w4.heap.size := by omega); (try have : w3.heap.size + 1 + 1 + 1 < w4.heap.size := by omega)))
          refine bodyPost_ret (by simp [results, Tryd.results6, go_sem, *]; try rfl) rfl ?_
          exact ⟨rfl, by (repeat' (first | (with_reducible exact Below.refl _ _) | (with_reducible assumption) | (with_reducible refine Below.drew ?_) | (with_reducible refine below_drewN ?_ _) | ((with_reducible refine Below.alloc ?_ ?_ _); rotate_left; focus (go_size; done)) | ((with_reducible refine Below.setCell ?_ ?_ _); rotate_left; focus (go_size; done)) | ((with_reducible refine Below.trans ?_ (Below.mono (by with_reducible assumption) ?_)); rotate_left; focus (go_size; done))))⟩
        · go_enter Tryd.func6, Tryd.ntmps6
          go_wp2_with (first | ((go_at_call 13; with_reducible refine (HP.out _).mono ?_); rintro _ w1 ⟨rfl, hb1⟩; have hb1s := hb1.size; (try simp only [World.size_alloc, World.size_setCell, World.size_drew, World.heap_drewN] at hb1s); obtain ⟨hb1c, hb1f⟩ := bcell hb1; (try have : w.heap.size < w1.heap.size := by omega); (try have : w.heap.size + 1 < w1.heap.size := by omega); (try have : w.heap.size + 1 + 1 < w1.heap.size := by omega); (try have : w.heap.size + 1 + 1 + 1 < w1.heap.size := by omega)) | ((go_at_call 32; with_reducible refine (HC.out _).mono ?_); rintro _ w2 ⟨rfl, hb2⟩; have hb2s := hb2.size; (try simp only [World.size_alloc, World.size_setCell, World.size_drew, World.heap_drewN] at hb2s); obtain ⟨hb2c, hb2f⟩ := bcell hb2; (try have : w.heap.size < w2.heap.size := by omega); (try have : w.heap.size + 1 < w2.heap.size := by omega); (try have : w.heap.size + 1 + 1 < w2.heap.size := by omega); (try have : w.heap.size + 1 + 1 + 1 < w2.heap.size := by omega); (try have : w1.heap.size < w2.heap.size := by omega); (try have : w1.heap.size + 1 < w2.heap.size := by omega); (try have : w1.heap.size + 1 + 1 < w2.heap.size := by omega); (try have : w1.heap.size + 1 + 1 + 1 < w2.heap.size := by omega)) | (go_at_call 14; go_in) | ((go_at_call 15; with_reducible refine (HNA.out _).mono ?_); rintro _ w3 ⟨rfl, hb3⟩; have hb3s := hb3.size; (try simp only [World.size_alloc, World.size_setCell, World.size_drew, World.heap_drewN] at hb3s); obtain ⟨hb3c, hb3f⟩ := bcell hb3; (try have : w.heap.size < w3.heap.size := by omega); (try have : w.heap.size + 1 < w3.heap.size := by omega); (try have : w.heap.size + 1 + 1 < w3.heap.size := by omega); (try have : w.heap.size + 1 + 1 + 1 < w3.heap.size := by omega); (try have : w1.heap.size < w3.heap.size := by omega); (try have : w1.heap.size + 1 < w3.heap.size := by omega); (try have : w1.heap.size + 1 + 1 < w3.heap.size := by omega); (try have : w1.heap.size + 1 + 1 + 1 < w3.heap.size := by omega); (try have : w2.heap.size < w3.heap.size := by omega); (try have : w2.heap.size + 1 < w3.heap.size := by omega); (try have : w2.heap.size + 1 + 1 < w3.heap.size := by omega); (try have : w2.heap.size + 1 + 1 + 1 < w3.heap.size := by omega)) | ((go_at_call 15; with_reducible refine (HNB.out _).mono ?_); rintro _ w4 ⟨rfl, hb4⟩; have hb4s := hb4.size; (try simp only [World.size_alloc, World.size_setCell, World.size_drew, World.heap_drewN] at hb4s); obtain ⟨hb4c, hb4f⟩ := bcell hb4; (try have : w.heap.size < w4.heap.size := by omega); (try have : w.heap.size + 1 < w4.heap.size := by omega); (try have : w.heap.size + 1 + 1 < w4.heap.size := by omega); (try have : w.heap.size + 1 + 1 + 1 < w4.heap.size := by omega); (try have : w1.heap.size < w4.heap.size := by omega); (try have : w1.heap.size + 1 < w4.heap.size := by omega); (try have : w1.heap.size + 1 + 1 < w4.heap.size := by omega); (try have : w1.heap.size + 1 + 1 + 1 < w4.heap.size := by omega); (try have : w2.heap.size < w4.heap.size := by omega); (try have : w2.heap.size + 1 < w4.heap.size := by omega); (try have : w2.heap.size + 1 + 1 < w4.heap.size := by omega); (try have : w2.heap.size + 1 + 1 + 1 < w4.heap.size := by omega); (try have : w3.heap.size < w4.heap.size := by omega); (try have : w3.heap.size + 1 < w4.heap.size := by omega); (try have : w3.heap.size + 1 + 1 < w4.heap.size := by omega); (try have : w3.heap.size + 1 + 1 + 1 < w4.heap.size := by omega)))
          refine bodyPost_ret (by simp [results, Tryd.results6, go_sem, *]; try rfl) rfl ?_
          exact ⟨rfl, by (repeat' (first | (with_reducible exact Below.refl _ _) | (with_reducible assumption) | (with_reducible refine Below.drew ?_) | (with_reducible refine below_drewN ?_ _) | ((with_reducible refine Below.alloc ?_ ?_ _); rotate_left; focus (go_size; done)) | ((with_reducible refine Below.setCell ?_ ?_ _); rotate_left; focus (go_size; done)) | ((with_reducible refine Below.trans ?_ (Below.mono (by with_reducible assumption) ?_)); rotate_left; focus (go_size; done))))⟩
      · have hdb2 : dt = false ∨ (dt = true ∧ isDs b = true) := by
          cases dt with
          | false => exact .inl rfl
          | true =>
            right
            refine ⟨rfl, ?_⟩
            cases h : isDs b with
            | true => rfl
            | false => exact absurd ⟨rfl, h⟩ hdb
        have hr : R = parS1 neg a (rt0 b) := by
          rw [HR.out]
          refine parS_yes ⟨hda, h1, fun h => ?_⟩
          rcases hdb2 with q | ⟨_, q⟩
          · rw [q] at h; exact Bool.noConfusion h
          · exact q
        have hall : (a ++ rt0 b).all isD = true := by
          have q1 : a.all isD = true := by
            unfold isDs at hda
            rw [Bool.and_eq_true] at hda; exact hda.2
          have q2 : b.all isD = true := by
            rcases hdb2 with q | ⟨_, q⟩
            · rw [HB0.out q]; rfl
            · unfold isDs at q
              rw [Bool.and_eq_true] at q; exact q.2
          rw [List.all_append, q1, rt0_all q2]; rfl
        have hrl := rt0_len b
        have HALL := Lib.hid hall
        have HR1 := Lib.hid hr
        clear HR hr hall hda hdb h1 hhd hne HB0
        go_enter Tryd.func6, Tryd.ntmps6
        go_upto_region 3 with (first | ((go_at_call 13; with_reducible refine (HP.out _).mono ?_); rintro _ w1 ⟨rfl, hb1⟩; have hb1s := hb1.size; (try simp only [World.size_alloc, World.size_setCell, World.size_drew, World.heap_drewN] at hb1s); obtain ⟨hb1c, hb1f⟩ := bcell hb1; (try have : w.heap.size < w1.heap.size := by omega); (try have : w.heap.size + 1 < w1.heap.size := by omega); (try have : w.heap.size + 1 + 1 < w1.heap.size := by omega); (try have : w.heap.size + 1 + 1 + 1 < w1.heap.size := by omega)) | ((go_at_call 32; with_reducible refine (HC.out _).mono ?_); rintro _ w2 ⟨rfl, hb2⟩; have hb2s := hb2.size; (try simp only [World.size_alloc, World.size_setCell, World.size_drew, World.heap_drewN] at hb2s); obtain ⟨hb2c, hb2f⟩ := bcell hb2; (try have : w.heap.size < w2.heap.size := by omega); (try have : w.heap.size + 1 < w2.heap.size := by omega); (try have : w.heap.size + 1 + 1 < w2.heap.size := by omega); (try have : w.heap.size + 1 + 1 + 1 < w2.heap.size := by omega); (try have : w1.heap.size < w2.heap.size := by omega); (try have : w1.heap.size + 1 < w2.heap.size := by omega); (try have : w1.heap.size + 1 + 1 < w2.heap.size := by omega); (try have : w1.heap.size + 1 + 1 + 1 < w2.heap.size := by omega)) | (go_at_call 14; go_in))
        go_cut [42] (fun s42 wx => s42 = .bool false ∧ Bk wx w.heap.size 26 [.bool false, .int .u64 0, .int .u64 0, .int .i64 0] ∧ Below w.heap.size w wx)
        case first =>
          rcases hdb2 with rfl | ⟨rfl, hdb2⟩
          · clear HNB
            rcases hnz with h2 | ⟨h2, h3⟩
            · have h2' : ¬ (1 : Int) < (a.length : Int) := by omega
              go_wp2_with (first | ((go_at_call 15; with_reducible refine (HNA.out _).mono ?_); rintro _ w3 ⟨rfl, hb3⟩; have hb3s := hb3.size; (try simp only [World.size_alloc, World.size_setCell, World.size_drew, World.heap_drewN] at hb3s); obtain ⟨hb3c, hb3f⟩ := bcell hb3; (try have : w.heap.size < w3.heap.size := by omega); (try have : w.heap.size + 1 < w3.heap.size := by omega); (try have : w.heap.size + 1 + 1 < w3.heap.size := by omega); (try have : w.heap.size + 1 + 1 + 1 < w3.heap.size := by omega); (try have : w1.heap.size < w3.heap.size := by omega); (try have : w1.heap.size + 1 < w3.heap.size := by omega); (try have : w1.heap.size + 1 + 1 < w3.heap.size := by omega); (try have : w1.heap.size + 1 + 1 + 1 < w3.heap.size := by omega); (try have : w2.heap.size < w3.heap.size := by omega); (try have : w2.heap.size + 1 < w3.heap.size := by omega); (try have : w2.heap.size + 1 + 1 < w3.heap.size := by omega); (try have : w2.heap.size + 1 + 1 + 1 < w3.heap.size := by omega)) | ((go_at_call 15; with_reducible refine (HNB.out _).mono ?_); rintro _ w4 ⟨rfl, hb4⟩; have hb4s := hb4.size; (try simp only [World.size_alloc, World.size_setCell, World.size_drew, World.heap_drewN] at hb4s); obtain ⟨hb4c, hb4f⟩ := bcell hb4; (try have : w.heap.size < w4.heap.size := by omega); (try have : w.heap.size + 1 < w4.heap.size := by omega); (try have : w.heap.size + 1 + 1 < w4.heap.size := by omega); (try have : w.heap.size + 1 + 1 + 1 < w4.heap.size := by omega); (try have : w1.heap.size < w4.heap.size := by omega); (try have : w1.heap.size + 1 < w4.heap.size := by omega); (try have : w1.heap.size + 1 + 1 < w4.heap.size := by omega); (try have : w1.heap.size + 1 + 1 + 1 < w4.heap.size := by omega); (try have : w2.heap.size < w4.heap.size := by omega); (try have : w2.heap.size + 1 < w4.heap.size := by omega); (try have : w2.heap.size + 1 + 1 < w4.heap.size := by omega); (try have : w2.heap.size + 1 + 1 + 1 < w4.heap.size := by omega); (try have : w3.heap.size < w4.heap.size := by omega); (try have : w3.heap.size + 1 < w4.heap.size := by omega); (try have : w3.heap.size + 1 + 1 < w4.heap.size := by omega); (try have : w3.heap.size + 1 + 1 + 1 < w4.heap.size := by omega)))
              go_meet
              case rel => exact ⟨rfl, by (repeat (first | (with_reducible assumption) | ((with_reducible refine Bk.new_ ?_); (first | rfl | (simp only [World.size_alloc, World.size_setCell, World.size_drew, World.heap_drewN]; done))) | (with_reducible refine Bk.alloc ?_ _) | (with_reducible refine Bk.drew ?_) | (with_reducible refine Bk.drewN ?_ _) | ((with_reducible refine Bk.far ?_ ?_ _); rotate_left; focus (simp only []; omega)) | ((with_reducible refine Bk.below ?_ (by with_reducible assumption) ?_); rotate_left; focus (go_size; done)))), by (repeat' (first | (with_reducible exact Below.refl _ _) | (with_reducible assumption) | (with_reducible refine Below.drew ?_) | (with_reducible refine below_drewN ?_ _) | ((with_reducible refine Below.alloc ?_ ?_ _); rotate_left; focus (go_size; done)) | ((with_reducible refine Below.setCell ?_ ?_ _); rotate_left; focus (go_size; done)) | ((with_reducible refine Below.trans ?_ (Below.mono (by with_reducible assumption) ?_)); rotate_left; focus (go_size; done))))⟩
            · go_wp2_with (first | ((go_at_call 15; with_reducible refine (HNA.out _).mono ?_); rintro _ w3 ⟨rfl, hb3⟩; have hb3s := hb3.size; (try simp only [World.size_alloc, World.size_setCell, World.size_drew, World.heap_drewN] at hb3s); obtain ⟨hb3c, hb3f⟩ := bcell hb3; (try have : w.heap.size < w3.heap.size := by omega); (try have : w.heap.size + 1 < w3.heap.size := by omega); (try have : w.heap.size + 1 + 1 < w3.heap.size := by omega); (try have : w.heap.size + 1 + 1 + 1 < w3.heap.size := by omega); (try have : w1.heap.size < w3.heap.size := by omega); (try have : w1.heap.size + 1 < w3.heap.size := by omega); (try have : w1.heap.size + 1 + 1 < w3.heap.size := by omega); (try have : w1.heap.size + 1 + 1 + 1 < w3.heap.size := by omega); (try have : w2.heap.size < w3.heap.size := by omega); (try have : w2.heap.size + 1 < w3.heap.size := by omega); (try have : w2.heap.size + 1 + 1 < w3.heap.size := by omega); (try have : w2.heap.size + 1 + 1 + 1 < w3.heap.size := by omega)) | ((go_at_call 15; with_reducible refine (HNB.out _).mono ?_); rintro _ w4 ⟨rfl, hb4⟩; have hb4s := hb4.size; (try simp only [World.size_alloc, World.size_setCell, World.size_drew, World.heap_drewN] at hb4s); obtain ⟨hb4c, hb4f⟩ := bcell hb4; (try have : w.heap.size < w4.heap.size := by omega); (try have : w.heap.size + 1 < w4.heap.size := by omega); (try have : w.heap.size + 1 + 1 < w4.heap.size := by omega); (try have : w.heap.size + 1 + 1 + 1 < w4.heap.size := by omega); (try have : w1.heap.size < w4.heap.size := by omega); (try have : w1.heap.size + 1 < w4.heap.size := by omega); (try have : w1.heap.size + 1 + 1 < w4.heap.size := by omega); (try have : w1.heap.size + 1 + 1 + 1 < w4.heap.size := by omega); (try have : w2.heap.size < w4.heap.size := by omega); (try have : w2.heap.size + 1 < w4.heap.size := by omega); (try have : w2.heap.size + 1 + 1 < w4.heap.size := by omega); (try have : w2.heap.size + 1 + 1 + 1 < w4.heap.size := by omega); (try have : w3.heap.size < w4.heap.size := by omega); (try have : w3.heap.size + 1 < w4.heap.size := by omega); (try have : w3.heap.size + 1 + 1 < w4.heap.size := by omega); (try have : w3.heap.size + 1 + 1 + 1 < w4.heap.size := by omega)))
              go_meet
              case rel => exact ⟨rfl, by (repeat (first | (with_reducible assumption) | ((with_reducible refine Bk.new_ ?_); (first | rfl | (simp only [World.size_alloc, World.size_setCell, World.size_drew, World.heap_drewN]; done))) | (with_reducible refine Bk.alloc ?_ _) | (with_reducible refine Bk.drew ?_) | (with_reducible refine Bk.drewN ?_ _) | ((with_reducible refine Bk.far ?_ ?_ _); rotate_left; focus (simp only []; omega)) | ((with_reducible refine Bk.below ?_ (by with_reducible assumption) ?_); rotate_left; focus (go_size; done)))), by (repeat' (first | (with_reducible exact Below.refl _ _) | (with_reducible assumption) | (with_reducible refine Below.drew ?_) | (with_reducible refine below_drewN ?_ _) | ((with_reducible refine Below.alloc ?_ ?_ _); rotate_left; focus (go_size; done)) | ((with_reducible refine Below.setCell ?_ ?_ _); rotate_left; focus (go_size; done)) | ((with_reducible refine Below.trans ?_ (Below.mono (by with_reducible assumption) ?_)); rotate_left; focus (go_size; done))))⟩
          · rw [hdb2] at HNB
            clear hdb2
            rcases hnz with h2 | ⟨h2, h3⟩
            · have h2' : ¬ (1 : Int) < (a.length : Int) := by omega
              go_wp2_with (first | ((go_at_call 15; with_reducible refine (HNA.out _).mono ?_); rintro _ w3 ⟨rfl, hb3⟩; have hb3s := hb3.size; (try simp only [World.size_alloc, World.size_setCell, World.size_drew, World.heap_drewN] at hb3s); obtain ⟨hb3c, hb3f⟩ := bcell hb3; (try have : w.heap.size < w3.heap.size := by omega); (try have : w.heap.size + 1 < w3.heap.size := by omega); (try have : w.heap.size + 1 + 1 < w3.heap.size := by omega); (try have : w.heap.size + 1 + 1 + 1 < w3.heap.size := by omega); (try have : w1.heap.size < w3.heap.size := by omega); (try have : w1.heap.size + 1 < w3.heap.size := by omega); (try have : w1.heap.size + 1 + 1 < w3.heap.size := by omega); (try have : w1.heap.size + 1 + 1 + 1 < w3.heap.size := by omega); (try have : w2.heap.size < w3.heap.size := by omega); (try have : w2.heap.size + 1 < w3.heap.size := by omega); (try have : w2.heap.size + 1 + 1 < w3.heap.size := by omega); (try have : w2.heap.size + 1 + 1 + 1 < w3.heap.size := by omega)) | ((go_at_call 15; with_reducible refine (HNB.out _).mono ?_); rintro _ w4 ⟨rfl, hb4⟩; have hb4s := hb4.size; (try simp only [World.size_alloc, World.size_setCell, World.size_drew, World.heap_drewN] at hb4s); obtain ⟨hb4c, hb4f⟩ := bcell hb4; (try have : w.heap.size < w4.heap.size := by omega); (try have : w.heap.size + 1 < w4.heap.size := by omega); (try have : w.heap.size + 1 + 1 < w4.heap.size := by omega); (try have : w.heap.size + 1 + 1 + 1 < w4.heap.size := by omega); (try have : w1.heap.size < w4.heap.size := by omega); (try have : w1.heap.size + 1 < w4.heap.size := by omega); (try have : w1.heap.size + 1 + 1 < w4.heap.size := by omega); (try have : w1.heap.size + 1 + 1 + 1 < w4.heap.size := by omega); (try have : w2.heap.size < w4.heap.size := by omega); (try have : w2.heap.size + 1 < w4.heap.size := by omega); (try have : w2.heap.size + 1 + 1 < w4.heap.size := by omega); (try have : w2.heap.size + 1 + 1 + 1 < w4.heap.size := by omega); (try have : w3.heap.size < w4.heap.size := by omega); (try have : w3.heap.size + 1 < w4.heap.size := by omega); (try have : w3.heap.size + 1 + 1 < w4.heap.size := by omega); (try have : w3.heap.size + 1 + 1 + 1 < w4.heap.size := by omega)))
              go_meet
              case rel => exact ⟨rfl, by (repeat (first | (with_reducible assumption) | ((with_reducible refine Bk.new_ ?_); (first | rfl | (simp only [World.size_alloc, World.size_setCell, World.size_drew, World.heap_drewN]; done))) | (with_reducible refine Bk.alloc ?_ _) | (with_reducible refine Bk.drew ?_) | (with_reducible refine Bk.drewN ?_ _) | ((with_reducible refine Bk.far ?_ ?_ _); rotate_left; focus (simp only []; omega)) | ((with_reducible refine Bk.below ?_ (by with_reducible assumption) ?_); rotate_left; focus (go_size; done)))), by (repeat' (first | (with_reducible exact Below.refl _ _) | (with_reducible assumption) | (with_reducible refine Below.drew ?_) | (with_reducible refine below_drewN ?_ _) | ((with_reducible refine Below.alloc ?_ ?_ _); rotate_left; focus (go_size; done)) | ((with_reducible refine Below.setCell ?_ ?_ _); rotate_left; focus (go_size; done)) | ((with_reducible refine Below.trans ?_ (Below.mono (by with_reducible assumption) ?_)); rotate_left; focus (go_size; done))))⟩
            · go_wp2_with (first | ((go_at_call 15; with_reducible refine (HNA.out _).mono ?_); rintro _ w3 ⟨rfl, hb3⟩; have hb3s := hb3.size; (try simp only [World.size_alloc, World.size_setCell, World.size_drew, World.heap_drewN] at hb3s); obtain ⟨hb3c, hb3f⟩ := bcell hb3; (try have : w.heap.size < w3.heap.size := by omega); (try have : w.heap.size + 1 < w3.heap.size := by omega); (try have : w.heap.size + 1 + 1 < w3.heap.size := by omega); (try have : w.heap.size + 1 + 1 + 1 < w3.heap.size := by omega); (try have : w1.heap.size < w3.heap.size := by omega); (try have : w1.heap.size + 1 < w3.heap.size := by omega); (try have : w1.heap.size + 1 + 1 < w3.heap.size := by omega); (try have : w1.heap.size + 1 + 1 + 1 < w3.heap.size := by omega); (try have : w2.heap.size < w3.heap.size := by omega); (try have : w2.heap.size + 1 < w3.heap.size := by omega); (try have : w2.heap.size + 1 + 1 < w3.heap.size := by omega); (try have : w2.heap.size + 1 + 1 + 1 < w3.heap.size := by omega)) | ((go_at_call 15; with_reducible refine (HNB.out _).mono ?_); rintro _ w4 ⟨rfl, hb4⟩; have hb4s := hb4.size; (try simp only [World.size_alloc, World.size_setCell, World.size_drew, World.heap_drewN] at hb4s); obtain ⟨hb4c, hb4f⟩ := bcell hb4; (try have : w.heap.size < w4.heap.size := by omega); (try have : w.heap.size + 1 < w4.heap.size := by omega); (try have : w.heap.size + 1 + 1 < w4.heap.size := by omega); (try have : w.heap.size + 1 + 1 + 1 < w4.heap.size := by omega); (try have : w1.heap.size < w4.heap.size := by omega); (try have : w1.heap.size + 1 < w4.heap.size := by omega); (try have : w1.heap.size + 1 + 1 < w4.heap.size := by omega); (try have : w1.heap.size + 1 + 1 + 1 < w4.heap.size := by omega); (try have : w2.heap.size < w4.heap.size := by omega); (try have : w2.heap.size + 1 < w4.heap.size := by omega); (try have : w2.heap.size + 1 + 1 < w4.heap.size := by omega); (try have : w2.heap.size + 1 + 1 + 1 < w4.heap.size := by omega); (try have : w3.heap.size < w4.heap.size := by omega); (try have : w3.heap.size + 1 < w4.heap.size := by omega); (try have : w3.heap.size + 1 + 1 < w4.heap.size := by omega); (try have : w3.heap.size + 1 + 1 + 1 < w4.heap.size := by omega)))
              go_meet
              case rel => exact ⟨rfl, by (repeat (first | (with_reducible assumption) | ((with_reducible refine Bk.new_ ?_); (first | rfl | (simp only [World.size_alloc, World.size_setCell, World.size_drew, World.heap_drewN]; done))) | (with_reducible refine Bk.alloc ?_ _) | (with_reducible refine Bk.drew ?_) | (with_reducible refine Bk.drewN ?_ _) | ((with_reducible refine Bk.far ?_ ?_ _); rotate_left; focus (simp only []; omega)) | ((with_reducible refine Bk.below ?_ (by with_reducible assumption) ?_); rotate_left; focus (go_size; done)))), by (repeat' (first | (with_reducible exact Below.refl _ _) | (with_reducible assumption) | (with_reducible refine Below.drew ?_) | (with_reducible refine below_drewN ?_ _) | ((with_reducible refine Below.alloc ?_ ?_ _); rotate_left; focus (go_size; done)) | ((with_reducible refine Below.setCell ?_ ?_ _); rotate_left; focus (go_size; done)) | ((with_reducible refine Below.trans ?_ (Below.mono (by with_reducible assumption) ?_)); rotate_left; focus (go_size; done))))⟩
        case rest =>
          obtain ⟨rfl, k2, mb⟩ := hcut
          clear hnz hdb2 HNA HNB HC HP
          have l2 := k2.lt
          have K2 := Lib.hid k2
          have c0 := k2.cell 0 rfl
          have c1 := k2.cell 1 rfl
          have c2 := k2.cell 2 rfl
          have c3 := k2.cell 3 rfl
          have f0 := k2.frozen 0
          have f1 := k2.frozen 1
          have f2 := k2.frozen 2
          have f3 := k2.frozen 3
          clear k2
          obtain ⟨b', hb'⟩ : ∃ b', b' = rt0 b := ⟨_, rfl⟩
          rw [← hb'] at HTR HALL HR1 hrl
          clear hb'
          have hs1 : a.length + b'.length ≤ 9223372036854775807 := by omega
          have hs2 : (a.length : Int) + (b'.length : Int) ≤ 9223372036854775807 := by omega
          have HTL := Lib.hid (fun W => tl_any (a ++ b') W)
          rw [show (⟨(a ++ b').toArray⟩ : ByteArray) = (⟨a.toArray⟩ : ByteArray) ++ ⟨b'.toArray⟩ from (cat_mk a b').symm] at HTL
          clear hab hsm hrl
          have E1 := Lib.hid (lt0_nil HALL.out)
          have E2 := Lib.hid (lt0_34 HALL.out)
          have E3 := Lib.hid (lt0_ok HALL.out)
          have E4 := Lib.hid (lt0_dvb (a ++ b'))
          obtain ⟨d, hd⟩ : ∃ d, d = lt0 (a ++ b') := ⟨_, rfl⟩
          rw [← hd] at E1 E2 E3 E4 HTL
          have HDL : d.length ≤ 9223372036854775807 := by
            have := lt0_len (a ++ b')
            rw [← hd, List.length_append] at this
            omega
          obtain ⟨v, hv⟩ : ∃ v, v = dvb (a ++ b') 0 := ⟨_, rfl⟩
          unfold parS1 at HR1
          rw [← hv] at E1 E2 E4 HR1
          clear hd hv HALL
          by_cases hd0 : d = []
          · have hv0 : v = 0 := E1.out.1 hd0
            have hr : R = (false, 0, 0, if neg = true then 5 else 0) := by rw [HR1.out, if_pos hv0]
            subst hd0
            clear E1 E2 E3 E4 hv0 HDL HR1
            cases neg with
            | true =>
              rw [if_pos rfl] at hr
              subst hr
              go_wp2_with (first | ((go_at_call 16; with_reducible refine (HTR.out _).mono ?_); rintro _ w5 ⟨rfl, hb5⟩; have hb5s := hb5.size; (try simp only [World.size_alloc, World.size_setCell, World.size_drew, World.heap_drewN] at hb5s); obtain ⟨hb5c, hb5f⟩ := bcell hb5; (try have : w.heap.size < w5.heap.size := by omega); (try have : w.heap.size + 1 < w5.heap.size := by omega); (try have : w.heap.size + 1 + 1 < w5.heap.size := by omega); (try have : w.heap.size + 1 + 1 + 1 < w5.heap.size := by omega)) | ((go_at_call 17; with_reducible refine (HTL.out _).mono ?_); rintro _ w6 ⟨rfl, hb6⟩; have hb6s := hb6.size; (try simp only [World.size_alloc, World.size_setCell, World.size_drew, World.heap_drewN] at hb6s); obtain ⟨hb6c, hb6f⟩ := bcell hb6; (try have : w.heap.size < w6.heap.size := by omega); (try have : w.heap.size + 1 < w6.heap.size := by omega); (try have : w.heap.size + 1 + 1 < w6.heap.size := by omega); (try have : w.heap.size + 1 + 1 + 1 < w6.heap.size := by omega); (try have : w5.heap.size < w6.heap.size := by omega); (try have : w5.heap.size + 1 < w6.heap.size := by omega); (try have : w5.heap.size + 1 + 1 < w6.heap.size := by omega); (try have : w5.heap.size + 1 + 1 + 1 < w6.heap.size := by omega)))
              refine bodyPost_ret (by simp [results, Tryd.results6, go_sem, *]; try rfl) rfl ?_
              exact ⟨by (try dsimp only); (try rw [w0_0, w0_1]); (try rfl), by (repeat' (first | (with_reducible exact Below.refl _ _) | (with_reducible assumption) | (with_reducible refine Below.drew ?_) | (with_reducible refine below_drewN ?_ _) | ((with_reducible refine Below.alloc ?_ ?_ _); rotate_left; focus (go_size; done)) | ((with_reducible refine Below.setCell ?_ ?_ _); rotate_left; focus (go_size; done)) | ((with_reducible refine Below.trans ?_ (Below.mono (by with_reducible assumption) ?_)); rotate_left; focus (go_size; done))))⟩
            | false =>
              rw [if_neg (by decide)] at hr
              subst hr
              go_wp2_with (first | ((go_at_call 16; with_reducible refine (HTR.out _).mono ?_); rintro _ w5 ⟨rfl, hb5⟩; have hb5s := hb5.size; (try simp only [World.size_alloc, World.size_setCell, World.size_drew, World.heap_drewN] at hb5s); obtain ⟨hb5c, hb5f⟩ := bcell hb5; (try have : w.heap.size < w5.heap.size := by omega); (try have : w.heap.size + 1 < w5.heap.size := by omega); (try have : w.heap.size + 1 + 1 < w5.heap.size := by omega); (try have : w.heap.size + 1 + 1 + 1 < w5.heap.size := by omega)) | ((go_at_call 17; with_reducible refine (HTL.out _).mono ?_); rintro _ w6 ⟨rfl, hb6⟩; have hb6s := hb6.size; (try simp only [World.size_alloc, World.size_setCell, World.size_drew, World.heap_drewN] at hb6s); obtain ⟨hb6c, hb6f⟩ := bcell hb6; (try have : w.heap.size < w6.heap.size := by omega); (try have : w.heap.size + 1 < w6.heap.size := by omega); (try have : w.heap.size + 1 + 1 < w6.heap.size := by omega); (try have : w.heap.size + 1 + 1 + 1 < w6.heap.size := by omega); (try have : w5.heap.size < w6.heap.size := by omega); (try have : w5.heap.size + 1 < w6.heap.size := by omega); (try have : w5.heap.size + 1 + 1 < w6.heap.size := by omega); (try have : w5.heap.size + 1 + 1 + 1 < w6.heap.size := by omega)))
              refine bodyPost_ret (by simp [results, Tryd.results6, go_sem, *]; try rfl) rfl ?_
              exact ⟨by (try dsimp only); (try rw [w0_0, w0_1]); (try rfl), by (repeat' (first | (with_reducible exact Below.refl _ _) | (with_reducible assumption) | (with_reducible refine Below.drew ?_) | (with_reducible refine below_drewN ?_ _) | ((with_reducible refine Below.alloc ?_ ?_ _); rotate_left; focus (go_size; done)) | ((with_reducible refine Below.setCell ?_ ?_ _); rotate_left; focus (go_size; done)) | ((with_reducible refine Below.trans ?_ (Below.mono (by with_reducible assumption) ?_)); rotate_left; focus (go_size; done))))⟩
          · have hv0 : v ≠ 0 := fun e => hd0 (E1.out.2 e)
            have e1 : (d == []) = false := by simpa using hd0
            have e2 : (d != []) = true := by simpa using hd0
            have e3 : d.isEmpty = false := by simpa using hd0
            by_cases h18 : 18 < b'.length
            · have hr : R = (false, 0, 0, 3) := by rw [HR1.out, if_neg hv0, if_pos (.inl h18)]
              subst hr
              have h18' : (18 : Int) < (b'.length : Int) := by omega
              clear E1 E2 E3 E4 hv0 HR1 hd0
              go_wp2_with (first | ((go_at_call 16; with_reducible refine (HTR.out _).mono ?_); rintro _ w5 ⟨rfl, hb5⟩; have hb5s := hb5.size; (try simp only [World.size_alloc, World.size_setCell, World.size_drew, World.heap_drewN] at hb5s); obtain ⟨hb5c, hb5f⟩ := bcell hb5; (try have : w.heap.size < w5.heap.size := by omega); (try have : w.heap.size + 1 < w5.heap.size := by omega); (try have : w.heap.size + 1 + 1 < w5.heap.size := by omega); (try have : w.heap.size + 1 + 1 + 1 < w5.heap.size := by omega)) | ((go_at_call 17; with_reducible refine (HTL.out _).mono ?_); rintro _ w6 ⟨rfl, hb6⟩; have hb6s := hb6.size; (try simp only [World.size_alloc, World.size_setCell, World.size_drew, World.heap_drewN] at hb6s); obtain ⟨hb6c, hb6f⟩ := bcell hb6; (try have : w.heap.size < w6.heap.size := by omega); (try have : w.heap.size + 1 < w6.heap.size := by omega); (try have : w.heap.size + 1 + 1 < w6.heap.size := by omega); (try have : w.heap.size + 1 + 1 + 1 < w6.heap.size := by omega); (try have : w5.heap.size < w6.heap.size := by omega); (try have : w5.heap.size + 1 < w6.heap.size := by omega); (try have : w5.heap.size + 1 + 1 < w6.heap.size := by omega); (try have : w5.heap.size + 1 + 1 + 1 < w6.heap.size := by omega)))
              refine bodyPost_ret (by simp [results, Tryd.results6, go_sem, *]; try rfl) rfl ?_
              exact ⟨by (try dsimp only); (try rw [w0_0, w0_1]); (try rfl), by (repeat' (first | (with_reducible exact Below.refl _ _) | (with_reducible assumption) | (with_reducible refine Below.drew ?_) | (with_reducible refine below_drewN ?_ _) | ((with_reducible refine Below.alloc ?_ ?_ _); rotate_left; focus (go_size; done)) | ((with_reducible refine Below.setCell ?_ ?_ _); rotate_left; focus (go_size; done)) | ((with_reducible refine Below.trans ?_ (Below.mono (by with_reducible assumption) ?_)); rotate_left; focus (go_size; done))))⟩
            · have h18' : ¬ (18 : Int) < (b'.length : Int) := by omega
              by_cases h34 : d.length ≤ 34
              · have hvB : v < B34 := E2.out.1 h34
                have hr : R = (neg, v, b'.length, 0) := by rw [HR1.out, if_neg hv0, if_neg (by rintro (q | q); exact h18 q; exact q hvB)]
                subst hr
                have h34' : ¬ (34 : Int) < (d.length : Int) := by omega
                have hok := E3.out hd0
                have hrd := fun W => read_ok ⟨d.toArray⟩ (by simpa using hok) (by rw [Lib.size_mk]; unfold maxLen; omega) W
                have hdd : (⟨d.toArray⟩ : ByteArray).data.toList = d := by simp
                rw [hdd] at hrd
                obtain ⟨q1, q2⟩ := rd_fits (l := d) (by rw [E4.out]; exact Nat.lt_trans hvB B34_lt)
                rw [q1, q2, E4.out] at hrd
                have HRD := Lib.hid hrd
                clear E1 E2 E3 E4 hv0 HR1 hd0 hrd q1 q2 hok hvB hdd
                obtain ⟨v1, hv1⟩ : ∃ v1, v1 = wd v 1 := ⟨_, rfl⟩
                obtain ⟨v0, hv0⟩ : ∃ v0, v0 = wd v 0 := ⟨_, rfl⟩
                rw [← hv1, ← hv0] at HRD
                have HV1 := Lib.hid hv1
                have HV0 := Lib.hid hv0
                clear hv1 hv0
                go_wp2_with (first | ((go_at_call 16; with_reducible refine (HTR.out _).mono ?_); rintro _ w5 ⟨rfl, hb5⟩; have hb5s := hb5.size; (try simp only [World.size_alloc, World.size_setCell, World.size_drew, World.heap_drewN] at hb5s); obtain ⟨hb5c, hb5f⟩ := bcell hb5; (try have : w.heap.size < w5.heap.size := by omega); (try have : w.heap.size + 1 < w5.heap.size := by omega); (try have : w.heap.size + 1 + 1 < w5.heap.size := by omega); (try have : w.heap.size + 1 + 1 + 1 < w5.heap.size := by omega)) | ((go_at_call 17; with_reducible refine (HTL.out _).mono ?_); rintro _ w6 ⟨rfl, hb6⟩; have hb6s := hb6.size; (try simp only [World.size_alloc, World.size_setCell, World.size_drew, World.heap_drewN] at hb6s); obtain ⟨hb6c, hb6f⟩ := bcell hb6; (try have : w.heap.size < w6.heap.size := by omega); (try have : w.heap.size + 1 < w6.heap.size := by omega); (try have : w.heap.size + 1 + 1 < w6.heap.size := by omega); (try have : w.heap.size + 1 + 1 + 1 < w6.heap.size := by omega); (try have : w5.heap.size < w6.heap.size := by omega); (try have : w5.heap.size + 1 < w6.heap.size := by omega); (try have : w5.heap.size + 1 + 1 < w6.heap.size := by omega); (try have : w5.heap.size + 1 + 1 + 1 < w6.heap.size := by omega)) | ((go_at_call 18; with_reducible refine (HRD.out _).mono ?_); rintro _ w7 ⟨rfl, hb7⟩; have hb7s := hb7.size; (try simp only [World.size_alloc, World.size_setCell, World.size_drew, World.heap_drewN] at hb7s); obtain ⟨hb7c, hb7f⟩ := bcell hb7; (try have : w.heap.size < w7.heap.size := by omega); (try have : w.heap.size + 1 < w7.heap.size := by omega); (try have : w.heap.size + 1 + 1 < w7.heap.size := by omega); (try have : w.heap.size + 1 + 1 + 1 < w7.heap.size := by omega); (try have : w5.heap.size < w7.heap.size := by omega); (try have : w5.heap.size + 1 < w7.heap.size := by omega); (try have : w5.heap.size + 1 + 1 < w7.heap.size := by omega); (try have : w5.heap.size + 1 + 1 + 1 < w7.heap.size := by omega); (try have : w6.heap.size < w7.heap.size := by omega); (try have : w6.heap.size + 1 < w7.heap.size := by omega); (try have : w6.heap.size + 1 + 1 < w7.heap.size := by omega); (try have : w6.heap.size + 1 + 1 + 1 < w7.heap.size := by omega)))
                refine bodyPost_ret (by simp [results, Tryd.results6, go_sem, *]; try rfl) rfl ?_
                exact ⟨by rw [← HV1.out, ← HV0.out], by (repeat' (first | (with_reducible exact Below.refl _ _) | (with_reducible assumption) | (with_reducible refine Below.drew ?_) | (with_reducible refine below_drewN ?_ _) | ((with_reducible refine Below.alloc ?_ ?_ _); rotate_left; focus (go_size; done)) | ((with_reducible refine Below.setCell ?_ ?_ _); rotate_left; focus (go_size; done)) | ((with_reducible refine Below.trans ?_ (Below.mono (by with_reducible assumption) ?_)); rotate_left; focus (go_size; done))))⟩
              · have hvB : ¬ v < B34 := fun q => h34 (E2.out.2 q)
                have hr : R = (false, 0, 0, 3) := by rw [HR1.out, if_neg hv0, if_pos (.inr hvB)]
                subst hr
                have h34' : (34 : Int) < (d.length : Int) := by omega
                clear E1 E2 E3 E4 hv0 HR1 hd0 hvB
                go_wp2_with (first | ((go_at_call 16; with_reducible refine (HTR.out _).mono ?_); rintro _ w5 ⟨rfl, hb5⟩; have hb5s := hb5.size; (try simp only [World.size_alloc, World.size_setCell, World.size_drew, World.heap_drewN] at hb5s); obtain ⟨hb5c, hb5f⟩ := bcell hb5; (try have : w.heap.size < w5.heap.size := by omega); (try have : w.heap.size + 1 < w5.heap.size := by omega); (try have : w.heap.size + 1 + 1 < w5.heap.size := by omega); (try have : w.heap.size + 1 + 1 + 1 < w5.heap.size := by omega)) | ((go_at_call 17; with_reducible refine (HTL.out _).mono ?_); rintro _ w6 ⟨rfl, hb6⟩; have hb6s := hb6.size; (try simp only [World.size_alloc, World.size_setCell, World.size_drew, World.heap_drewN] at hb6s); obtain ⟨hb6c, hb6f⟩ := bcell hb6; (try have : w.heap.size < w6.heap.size := by omega); (try have : w.heap.size + 1 < w6.heap.size := by omega); (try have : w.heap.size + 1 + 1 < w6.heap.size := by omega); (try have : w.heap.size + 1 + 1 + 1 < w6.heap.size := by omega); (try have : w5.heap.size < w6.heap.size := by omega); (try have : w5.heap.size + 1 < w6.heap.size := by omega); (try have : w5.heap.size + 1 + 1 < w6.heap.size := by omega); (try have : w5.heap.size + 1 + 1 + 1 < w6.heap.size := by omega)))
                refine bodyPost_ret (by simp [results, Tryd.results6, go_sem, *]; try rfl) rfl ?_
                exact ⟨by (try dsimp only); (try rw [w0_0, w0_1]); (try rfl), by (repeat' (first | (with_reducible exact Below.refl _ _) | (with_reducible assumption) | (with_reducible refine Below.drew ?_) | (with_reducible refine below_drewN ?_ _) | ((with_reducible refine Below.alloc ?_ ?_ _); rotate_left; focus (go_size; done)) | ((with_reducible refine Below.setCell ?_ ?_ _); rotate_left; focus (go_size; done)) | ((with_reducible refine Below.trans ?_ (Below.mono (by with_reducible assumption) ?_)); rotate_left; focus (go_size; done))))⟩
end Go.Proofs.YtogpbcllbbpgbaaDoor

set_option linter.unusedSimpArgs false
set_option linter.unusedVariables false
namespace Go.Proofs.YtogpbcllbbpgbaaDoor
open Go.RowKit

/-- a, b: what stands ahead of the point and behind it; no point, if b is empty -/
def Parts (m a b : List UInt8) : Prop := a = ahead m ∧ b = behind m ∧ (b = [] ↔ hasDot m = false)
theorem ext_empty (m : List UInt8) (t : Nat) : ((⟨m.toArray⟩ : ByteArray).extract t m.length).toList.isEmpty = (m.drop t).isEmpty := by
  rw [ext_from, ByteArray.toList_eq]
theorem rt0_zero {P : List UInt8} (h : 0 < P.length) (hc : P[P.length - 1]'(by omega) = 48) : rt0 P = rt0 (P.take (P.length - 1)) := by
  rcases List.eq_nil_or_concat P with rfl | ⟨Q, c, rfl⟩
  · simp at h
  · have hc2 : c = 48 := by rw [← hc]; simp
    have e : (Q.concat c).take ((Q.concat c).length - 1) = Q := by simp
    rw [e, List.concat_eq_append, hc2]
    unfold rt0 Lib.trimRightB
    rw [List.reverse_append]
    rfl
theorem rt0_stay {P : List UInt8} (h : 0 < P.length) (hc : P[P.length - 1]'(by omega) ≠ 48) : rt0 P = P := by
  refine rt0_keep fun c hcc => ?_
  rw [List.getLast?_eq_getElem?, List.getElem?_eq_getElem (by omega)] at hcc
  rw [← Option.some.inj hcc]
  exact hc
theorem rt0_end {a b : List UInt8} (h : b.all isD = true) : (rt0 b).length = 0 ∨ dvb (a ++ rt0 b) 0 % 10 ≠ 0 := by
  rcases List.eq_nil_or_concat (rt0 b) with e | ⟨Q, c, e⟩
  · left; rw [e]; rfl
  · right
    rw [List.concat_eq_append] at e
    have h1 := rt0_last b c (by rw [e]; simp)
    have h2 : isD c = true := List.all_eq_true.1 (rt0_all h) c (by rw [e]; simp)
    have h3 : 48 ≤ c.toNat ∧ c.toNat ≤ 57 := by simpa [isD] using h2
    have h4 : c.toNat ≠ 48 := fun q => h1 (UInt8.toNat_inj.1 q)
    rw [e, ← List.append_assoc, dvb_append]
    omega
theorem rt0_empty {a b : List UInt8} (h : b.all isD = true) (h0 : dvb (a ++ rt0 b) 0 = 0) : rt0 b = [] := by
  rcases rt0_end (a := a) h with e | e
  · exact List.eq_nil_of_length_eq_zero e
  · rw [h0] at e; exact absurd rfl e
set_option maxRecDepth 100000 in
set_option maxHeartbeats 40000000 in
theorem docparse_pos (m : List UInt8) (hml : m.length ≤ 1100000) (hmi : ∀ c r, m = c :: r → c ≠ 45) (w : World) : Calls Tryd.prog 5 #[.string ⟨m.toArray⟩] w (DPost (parS false (ahead m) (behind m) (hasDot m)) w) := by
  obtain ⟨R, hR⟩ : ∃ R, R = parS false (ahead m) (behind m) (hasDot m) := ⟨_, rfl⟩
  rw [← hR]
  have HR := Lib.hid hR
  clear hR
  unfold DPost
  have mb0 : Bk (w.alloc (.cells #[.bool false, .int .u64 0, .int .u64 0, .int .i64 0] 26)) w.heap.size 26 [.bool false, .int .u64 0, .int .u64 0, .int .i64 0] := by (repeat (first | (with_reducible assumption) | ((with_reducible refine Bk.new_ ?_); (first | rfl | (simp only [World.size_alloc, World.size_setCell, World.size_drew, World.heap_drewN]; done))) | (with_reducible refine Bk.alloc ?_ _) | (with_reducible refine Bk.drew ?_) | (with_reducible refine Bk.drewN ?_ _) | ((with_reducible refine Bk.far ?_ ?_ _); rotate_left; focus (simp only []; omega)) | ((with_reducible refine Bk.below ?_ (by with_reducible assumption) ?_); rotate_left; focus (go_size; done))))
  have mb : Below w.heap.size w (w.alloc (.cells #[.bool false, .int .u64 0, .int .u64 0, .int .i64 0] 26)) := by (repeat' (first | (with_reducible exact Below.refl _ _) | (with_reducible assumption) | (with_reducible refine Below.drew ?_) | (with_reducible refine below_drewN ?_ _) | ((with_reducible refine Below.alloc ?_ ?_ _); rotate_left; focus (go_size; done)) | ((with_reducible refine Below.setCell ?_ ?_ _); rotate_left; focus (go_size; done)) | ((with_reducible refine Below.trans ?_ (Below.mono (by with_reducible assumption) ?_)); rotate_left; focus (go_size; done))))
  have K2 := Lib.hid mb0
  clear mb0
  go_enter Tryd.func5, Tryd.ntmps5
  go_upto_region 1 with fail
  go_cut [4] (fun s4 wx => s4 = .bool false ∧ wx = w.alloc (.cells #[.bool false, .int .u64 0, .int .u64 0, .int .i64 0] 26))
  case first =>
    cases m with
    | nil =>
      go_wp2_with fail
      go_meet
      case rel => exact ⟨rfl, rfl⟩
    | cons c r =>
      have hc := hmi c r rfl
      have hz0 : 0 < (⟨(c :: r).toArray⟩ : ByteArray).size := by rw [Lib.size_mk]; simp
      have e5 : ((((⟨(c :: r).toArray⟩ : ByteArray)[0]'hz0).toNat : Int) == 45) = false := by
        rw [beq_eq_false_iff_ne]
        intro e
        have e1 : ((⟨(c :: r).toArray⟩ : ByteArray)[0]'hz0) = c := rfl
        rw [e1] at e
        exact hc (UInt8.toNat_inj.1 (by have : c.toNat = 45 := by omega
                                        rw [this]; rfl))
      clear hmi hc
      go_wp2_with fail
      go_meet
      case rel => exact ⟨rfl, rfl⟩
  case rest =>
    obtain ⟨rfl, hwc⟩ := hcut
    rw [← hwc] at K2 mb
    clear hwc
    obtain ⟨w1, rfl⟩ : ∃ w1 : World, w1 = wc := ⟨_, rfl⟩
    clear hmi
    go_upto_block 0 with fail
    go_cut [5, 6, 7] (fun s5 s6 s7 wx => ∃ a b : List UInt8, s5 = .string ⟨a.toArray⟩ ∧ s6 = .string ⟨b.toArray⟩ ∧ Parts m a b ∧ Bk wx w.heap.size 26 [.bool false, .int .u64 0, .int .u64 0, .int .i64 0] ∧ Below w.heap.size w wx)
    case first =>
      have hat : ∀ (t : Nat) (h : t < m.length), ((⟨m.toArray⟩ : ByteArray)[t]'(by rw [Lib.size_mk]; exact h)) = m[t] := fun t h => rfl
      have HAT := Lib.hid hat
      clear hat
      rcases dot_at m with ⟨i1, i2, i3, i4⟩ | ⟨i, i1, i2, i3, i4, i5⟩
      · have HN := Lib.hid (Lib.indexByte_none i1)
        have HA : Parts m m [] := ⟨i2.symm, i3.symm, ⟨fun _ => i4, fun _ => rfl⟩⟩
        clear i1 i2 i3 i4
        go_wp2_with fail
        go_loopg [5, 6, 7] m.length (fun k s5 s6 s7 wr => ∃ t : Nat, k + t = m.length ∧ s5 = .string ⟨m.toArray⟩ ∧ s6 = .string ⟨#[]⟩ ∧ s7 = .int .i64 t ∧ wr = w1)
        case atStart => exact ⟨0, by omega, rfl, rfl, rfl, rfl⟩
        case round =>
          obtain ⟨t, hk, rfl, rfl, rfl, rfl⟩ := hrel
          have HK := Lib.hid hk
          have htn : t ≤ m.length := by omega
          clear hk
          by_cases hlt : t < m.length
          · have e5 : ((((⟨m.toArray⟩ : ByteArray)[t]'(by rw [Lib.size_mk]; exact hlt)).toNat : Int) == 46) = false := by
              rw [HAT.out t hlt, beq_eq_false_iff_ne]
              intro e
              have e2 : m[t] = 46 := UInt8.toNat_inj.1 (by have : m[t].toNat = 46 := by omega
                                                           rw [this]; rfl)
              exact HN.out t (by rw [List.getElem?_eq_getElem hlt, e2])
            go_wp2_with fail
            go_roundg (gk - 1)
            case measure => have := HK.out; omega
            case rel => exact ⟨t + 1, by have := HK.out; omega, rfl, rfl, by go_num, rfl⟩
          · obtain rfl : t = m.length := by omega
            go_wp2_with fail
            go_meet
            case rel => exact ⟨m, [], rfl, rfl, HA, K2.out, mb⟩
      · obtain ⟨n1, n2⟩ := Lib.indexByte_some i1
        have HN := Lib.hid n2
        have HI := Lib.hid n1
        have HBI : Hid (behind m = m.drop (i + 1)) := Lib.hid i4
        have HAI : Hid (ahead m = m.take i) := Lib.hid i3
        have HDI : Hid (hasDot m = true) := Lib.hid i5
        clear i1 i3 i4 i5 n1 n2
        go_wp2_with fail
        go_loopg [5, 6, 7] m.length (fun k s5 s6 s7 wr => ∃ t : Nat, k + t = m.length ∧ t ≤ i ∧ s5 = .string ⟨m.toArray⟩ ∧ s6 = .string ⟨#[]⟩ ∧ s7 = .int .i64 t ∧ wr = w1)
        case atStart => exact ⟨0, by omega, by omega, rfl, rfl, rfl, rfl⟩
        case round =>
          obtain ⟨t, hk, hti, rfl, rfl, rfl, rfl⟩ := hrel
          have HK := Lib.hid hk
          have hlt : t < m.length := by omega
          clear hk
          by_cases hit : t = i
          · subst hit
            have e5 : ((((⟨m.toArray⟩ : ByteArray)[t]'(by rw [Lib.size_mk]; exact hlt)).toNat : Int) == 46) = true := by
              have e2 : m[t] = 46 := by
                have := HI.out
                rw [List.getElem?_eq_getElem hlt] at this
                exact Option.some.inj this
              rw [HAT.out t hlt, e2]; rfl
            have c1 : (0 : Int) ≤ (t : Int) := by omega
            have c2 : (t : Int) ≤ (m.length : Int) := by omega
            have c3 : (0 : Int) ≤ (t : Int) + 1 := by omega
            have c4 : (t : Int) + 1 ≤ (m.length : Int) := by omega
            have k2 := K2.out
            have c20 := k2.cell 0 rfl
            have c21 := k2.cell 1 rfl
            have c22 := k2.cell 2 rfl
            have c23 := k2.cell 3 rfl
            have f20 := k2.frozen 0
            have f21 := k2.frozen 1
            have f22 := k2.frozen 2
            have f23 := k2.frozen 3
            clear k2
            obtain ⟨b, hb⟩ : ∃ b, b = m.drop (t + 1) := ⟨_, rfl⟩
            rw [← hb] at HBI
            have HB := Lib.hid hb
            clear hb
            have hem := ext_empty m (t + 1)
            rw [← HB.out] at hem
            by_cases hb0 : b = []
            · have hr : R = (false, 0, 0, 5) := by
                rw [HR.out, parS_no (fun h => ?_)]
                have := h.2.2 HDI.out
                rw [HBI.out, hb0] at this
                exact Bool.noConfusion this
              have hem2 : ((⟨m.toArray⟩ : ByteArray).extract (t + 1) m.length).toList.isEmpty = true := by rw [hem, hb0]; rfl
              subst hr
              clear hem hb0
              go_wp2_with fail
              go_region
              go_wp2_with fail
              refine bodyPost_ret (by simp [results, Tryd.results5, go_sem, *]; try rfl) rfl ?_
              exact ⟨by (try dsimp only); rw [w0_0, w0_1], by (repeat' (first | (with_reducible exact Below.refl _ _) | (with_reducible assumption) | (with_reducible refine Below.drew ?_) | (with_reducible refine below_drewN ?_ _) | ((with_reducible refine Below.alloc ?_ ?_ _); rotate_left; focus (go_size; done)) | ((with_reducible refine Below.setCell ?_ ?_ _); rotate_left; focus (go_size; done)) | ((with_reducible refine Below.trans ?_ (Below.mono (by with_reducible assumption) ?_)); rotate_left; focus (go_size; done))))⟩
            · have hem2 : ((⟨m.toArray⟩ : ByteArray).extract (t + 1) m.length).toList.isEmpty = false := by rw [hem]; simpa using hb0
              have HA : Parts m (m.take t) (m.drop (t + 1)) := ⟨HAI.out.symm, by rw [HBI.out, HB.out], ⟨fun h => absurd h (by rw [← HB.out]; exact hb0), fun h => by rw [HDI.out] at h; exact Bool.noConfusion h⟩⟩
              clear hem hb0
              go_wp2_with fail
              go_region
              go_wp2_with fail
              go_meet
              case rel => exact ⟨m.take t, m.drop (t + 1), by rw [ext_upto], by rw [ext_from], HA, K2.out.drew, by (repeat' (first | (with_reducible exact Below.refl _ _) | (with_reducible assumption) | (with_reducible refine Below.drew ?_) | (with_reducible refine below_drewN ?_ _) | ((with_reducible refine Below.alloc ?_ ?_ _); rotate_left; focus (go_size; done)) | ((with_reducible refine Below.setCell ?_ ?_ _); rotate_left; focus (go_size; done)) | ((with_reducible refine Below.trans ?_ (Below.mono (by with_reducible assumption) ?_)); rotate_left; focus (go_size; done))))⟩
          · have e5 : ((((⟨m.toArray⟩ : ByteArray)[t]'(by rw [Lib.size_mk]; exact hlt)).toNat : Int) == 46) = false := by
              rw [HAT.out t hlt, beq_eq_false_iff_ne]
              intro e
              have e2 : m[t] = 46 := UInt8.toNat_inj.1 (by have : m[t].toNat = 46 := by omega
                                                           rw [this]; rfl)
              exact HN.out t (by omega) (by rw [List.getElem?_eq_getElem hlt, e2])
            have hti2 : t + 1 ≤ i := by omega
            clear hit
            go_wp2_with fail
            go_roundg (gk - 1)
            case measure => have := HK.out; omega
            case rel => exact ⟨t + 1, by have := HK.out; omega, hti2, rfl, rfl, by go_num, rfl⟩
    case rest =>
      obtain ⟨a, b, rfl, rfl, HAB, k2, mb⟩ := hcut
      clear K2
      have K2 := Lib.hid k2
      have l2 := k2.lt
      have c0 := k2.cell 0 rfl
      have c1 := k2.cell 1 rfl
      have c2 := k2.cell 2 rfl
      have c3 := k2.cell 3 rfl
      have f0 := k2.frozen 0
      have f1 := k2.frozen 1
      have f2 := k2.frozen 2
      have f3 := k2.frozen 3
      clear k2
      obtain ⟨w2, rfl⟩ : ∃ w2 : World, w2 = wc := ⟨_, rfl⟩
      obtain ⟨p1, p2, p3⟩ := HAB
      have hab := both_len m
      obtain ⟨dt, hdt⟩ : ∃ dt, dt = hasDot m := ⟨_, rfl⟩
      rw [← p1, ← p2] at hab
      rw [← p1, ← p2, ← hdt] at HR
      rw [← hdt] at p3
      have HP3 := Lib.hid p3
      clear p1 p2 p3 hdt
      have hab2 : a.length + b.length ≤ 1100000 := by omega
      have hda := fun W => digits_any ⟨a.toArray⟩ (by rw [Lib.size_mk]; omega) W
      have hdb := fun W => digits_any ⟨b.toArray⟩ (by rw [Lib.size_mk]; omega) W
      simp only [List.toList_toArray] at hda hdb
      have HDA := Lib.hid hda
      have HDB := Lib.hid hdb
      clear hda hdb hab hml
      cases hia : isDs a with
      | false =>
        rw [hia] at HDA
        have hr : R = (false, 0, 0, 5) := by rw [HR.out, parS_no (fun h => by rw [hia] at h; exact Bool.noConfusion h.1)]
        subst hr
        clear HR hia
        go_wp2_with (first | ((go_at_call 10; with_reducible refine (HDA.out _).mono ?_); rintro _ w3 ⟨rfl, hb3⟩; have hb3s := hb3.size; (try simp only [World.size_alloc, World.size_setCell, World.size_drew, World.heap_drewN] at hb3s); obtain ⟨hb3c, hb3f⟩ := bcell hb3; (try have : w.heap.size < w3.heap.size := by omega); (try have : w.heap.size + 1 < w3.heap.size := by omega); (try have : w.heap.size + 1 + 1 < w3.heap.size := by omega); (try have : w.heap.size + 1 + 1 + 1 < w3.heap.size := by omega)))
        refine bodyPost_ret (by simp [results, Tryd.results5, go_sem, *]; try rfl) rfl ?_
        exact ⟨by (try dsimp only); rw [w0_0, w0_1], by (repeat' (first | (with_reducible exact Below.refl _ _) | (with_reducible assumption) | (with_reducible refine Below.drew ?_) | (with_reducible refine below_drewN ?_ _) | ((with_reducible refine Below.alloc ?_ ?_ _); rotate_left; focus (go_size; done)) | ((with_reducible refine Below.setCell ?_ ?_ _); rotate_left; focus (go_size; done)) | ((with_reducible refine Below.trans ?_ (Below.mono (by with_reducible assumption) ?_)); rotate_left; focus (go_size; done))))⟩
      | true =>
        rw [hia] at HDA
        have hne : a ≠ [] := by rintro rfl; exact Bool.noConfusion hia
        have h0 : 0 < a.length := List.length_pos_iff.2 hne
        have hz0 : 0 < (⟨a.toArray⟩ : ByteArray).size := by rw [Lib.size_mk]; exact h0
        have hhd : ((⟨a.toArray⟩ : ByteArray)[0]'hz0).toNat = (a.headD 0).toNat := by
          cases a with
          | nil => exact absurd rfl hne
          | cons c r => rfl
        by_cases h1 : 1 < a.length ∧ (a.headD 0).toNat = 48
        · have h1' : (1 : Int) < (a.length : Int) := by omega
          have e5 : ((((⟨a.toArray⟩ : ByteArray)[0]'hz0).toNat : Int) == 48) = true := by rw [hhd, h1.2]; rfl
          have hr : R = (false, 0, 0, 5) := by rw [HR.out, parS_no (fun h => h.2.1 h1)]
          clear hhd hne
          subst hr
          clear HR hia h1
          go_wp2_with (first | ((go_at_call 10; with_reducible refine (HDA.out _).mono ?_); rintro _ w3 ⟨rfl, hb3⟩; have hb3s := hb3.size; (try simp only [World.size_alloc, World.size_setCell, World.size_drew, World.heap_drewN] at hb3s); obtain ⟨hb3c, hb3f⟩ := bcell hb3; (try have : w.heap.size < w3.heap.size := by omega); (try have : w.heap.size + 1 < w3.heap.size := by omega); (try have : w.heap.size + 1 + 1 < w3.heap.size := by omega); (try have : w.heap.size + 1 + 1 + 1 < w3.heap.size := by omega)))
          refine bodyPost_ret (by simp [results, Tryd.results5, go_sem, *]; try rfl) rfl ?_
          exact ⟨by (try dsimp only); rw [w0_0, w0_1], by (repeat' (first | (with_reducible exact Below.refl _ _) | (with_reducible assumption) | (with_reducible refine Below.drew ?_) | (with_reducible refine below_drewN ?_ _) | ((with_reducible refine Below.alloc ?_ ?_ _); rotate_left; focus (go_size; done)) | ((with_reducible refine Below.setCell ?_ ?_ _); rotate_left; focus (go_size; done)) | ((with_reducible refine Below.trans ?_ (Below.mono (by with_reducible assumption) ?_)); rotate_left; focus (go_size; done))))⟩
        · have hnz : (a.length : Int) ≤ 1 ∨ ((1 : Int) < (a.length : Int) ∧ ((((⟨a.toArray⟩ : ByteArray)[0]'hz0).toNat : Int) == 48) = false) := by
            by_cases h2 : 1 < a.length
            · right
              refine ⟨by omega, ?_⟩
              rw [hhd, beq_eq_false_iff_ne]
              intro e
              exact h1 ⟨h2, by omega⟩
            · left; omega
          by_cases hdb : b ≠ [] ∧ isDs b = false
          · obtain ⟨hb0, hdb⟩ := hdb
            have hr : R = (false, 0, 0, 5) := by
              rw [HR.out, parS_no (fun h => ?_)]
              cases hdt : dt with
              | false => exact hb0 (HP3.out.2 hdt)
              | true =>
                have := h.2.2 hdt
                rw [hdb] at this; exact Bool.noConfusion this
            subst hr
            have e1 : (b == []) = false := by simpa using hb0
            have e2 : (b != []) = true := by simpa using hb0
            have e3 : b.isEmpty = false := by simpa using hb0
            rw [hdb] at HDB
            clear HR hia hdb h1 hhd hne hb0
            rcases hnz with h2 | ⟨h2, h3⟩
            · have h2' : ¬ (1 : Int) < (a.length : Int) := by omega
              go_wp2_with (first | ((go_at_call 10; with_reducible refine (HDA.out _).mono ?_); rintro _ w3 ⟨rfl, hb3⟩; have hb3s := hb3.size; (try simp only [World.size_alloc, World.size_setCell, World.size_drew, World.heap_drewN] at hb3s); obtain ⟨hb3c, hb3f⟩ := bcell hb3; (try have : w.heap.size < w3.heap.size := by omega); (try have : w.heap.size + 1 < w3.heap.size := by omega); (try have : w.heap.size + 1 + 1 < w3.heap.size := by omega); (try have : w.heap.size + 1 + 1 + 1 < w3.heap.size := by omega)) | ((go_at_call 10; with_reducible refine (HDB.out _).mono ?_); rintro _ w4 ⟨rfl, hb4⟩; have hb4s := hb4.size; (try simp only [World.size_alloc, World.size_setCell, World.size_drew, World.heap_drewN] at hb4s); obtain ⟨hb4c, hb4f⟩ := bcell hb4; (try have : w.heap.size < w4.heap.size := by omega); (try have : w.heap.size + 1 < w4.heap.size := by omega); (try have : w.heap.size + 1 + 1 < w4.heap.size := by omega); (try have : w.heap.size + 1 + 1 + 1 < w4.heap.size := by omega); (try have : w3.heap.size < w4.heap.size := by omega); (try have : w3.heap.size + 1 < w4.heap.size := by omega); (try have : w3.heap.size + 1 + 1 < w4.heap.size := by omega); (try have : w3.heap.size + 1 + 1 + 1 < w4.heap.size := by omega)))
              refine bodyPost_ret (by simp [results, Tryd.results5, go_sem, *]; try rfl) rfl ?_
              exact ⟨by (try dsimp only); rw [w0_0, w0_1], by (repeat' (first | (with_reducible exact Below.refl _ _) | (with_reducible assumption) | (with_reducible refine Below.drew ?_) | (with_reducible refine below_drewN ?_ _) | ((with_reducible refine Below.alloc ?_ ?_ _); rotate_left; focus (go_size; done)) | ((with_reducible refine Below.setCell ?_ ?_ _); rotate_left; focus (go_size; done)) | ((with_reducible refine Below.trans ?_ (Below.mono (by with_reducible assumption) ?_)); rotate_left; focus (go_size; done))))⟩
            · go_wp2_with (first | ((go_at_call 10; with_reducible refine (HDA.out _).mono ?_); rintro _ w3 ⟨rfl, hb3⟩; have hb3s := hb3.size; (try simp only [World.size_alloc, World.size_setCell, World.size_drew, World.heap_drewN] at hb3s); obtain ⟨hb3c, hb3f⟩ := bcell hb3; (try have : w.heap.size < w3.heap.size := by omega); (try have : w.heap.size + 1 < w3.heap.size := by omega); (try have : w.heap.size + 1 + 1 < w3.heap.size := by omega); (try have : w.heap.size + 1 + 1 + 1 < w3.heap.size := by omega)) | ((go_at_call 10; with_reducible refine (HDB.out _).mono ?_); rintro _ w4 ⟨rfl, hb4⟩; have hb4s := hb4.size; (try simp only [World.size_alloc, World.size_setCell, World.size_drew, World.heap_drewN] at hb4s); obtain ⟨hb4c, hb4f⟩ := bcell hb4; (try have : w.heap.size < w4.heap.size := by omega); (try have : w.heap.size + 1 < w4.heap.size := by omega); (try have : w.heap.size + 1 + 1 < w4.heap.size := by omega); (try have : w.heap.size + 1 + 1 + 1 < w4.heap.size := by omega); (try have : w3.heap.size < w4.heap.size := by omega); (try have : w3.heap.size + 1 < w4.heap.size := by omega); (try have : w3.heap.size + 1 + 1 < w4.heap.size := by omega); (try have : w3.heap.size + 1 + 1 + 1 < w4.heap.size := by omega)))
              refine bodyPost_ret (by simp [results, Tryd.results5, go_sem, *]; try rfl) rfl ?_
              exact ⟨by (try dsimp only); rw [w0_0, w0_1], by (repeat' (first | (with_reducible exact Below.refl _ _) | (with_reducible assumption) | (with_reducible refine Below.drew ?_) | (with_reducible refine below_drewN ?_ _) | ((with_reducible refine Below.alloc ?_ ?_ _); rotate_left; focus (go_size; done)) | ((with_reducible refine Below.setCell ?_ ?_ _); rotate_left; focus (go_size; done)) | ((with_reducible refine Below.trans ?_ (Below.mono (by with_reducible assumption) ?_)); rotate_left; focus (go_size; done))))⟩
          · have hdb2 : b = [] ∨ (b ≠ [] ∧ isDs b = true) := by
              by_cases q : b = []
              · exact .inl q
              · right
                refine ⟨q, ?_⟩
                cases h : isDs b with
                | true => rfl
                | false => exact absurd ⟨q, h⟩ hdb
            have hr : R = parS1 false a (rt0 b) := by
              rw [HR.out]
              refine parS_yes ⟨hia, h1, fun h => ?_⟩
              rcases hdb2 with q | ⟨_, q⟩
              · have := HP3.out.1 q; rw [this] at h; exact Bool.noConfusion h
              · exact q
            have qa : a.all isD = true := by
              unfold isDs at hia
              rw [Bool.and_eq_true] at hia; exact hia.2
            have qb : b.all isD = true := by
              rcases hdb2 with q | ⟨_, q⟩
              · rw [q]; rfl
              · unfold isDs at q
                rw [Bool.and_eq_true] at q; exact q.2
            have HQA := Lib.hid qa
            have HQB := Lib.hid qb
            have HR1 := Lib.hid hr
            clear HR hr qa qb hia hdb h1 hhd hne HP3
            go_upto_region 12 with fail
            go_cut [61] (fun s61 wx => s61 = .bool false ∧ Bk wx w.heap.size 26 [.bool false, .int .u64 0, .int .u64 0, .int .i64 0] ∧ Below w.heap.size w wx)
            case first =>
              have k2 := K2.out
              rcases hdb2 with rfl | ⟨hb0, hdb2⟩
              · clear HDB
                rcases hnz with h2 | ⟨h2, h3⟩
                · have h2' : ¬ (1 : Int) < (a.length : Int) := by omega
                  go_wp2_with (first | ((go_at_call 10; with_reducible refine (HDA.out _).mono ?_); rintro _ w3 ⟨rfl, hb3⟩; have hb3s := hb3.size; (try simp only [World.size_alloc, World.size_setCell, World.size_drew, World.heap_drewN] at hb3s); obtain ⟨hb3c, hb3f⟩ := bcell hb3; (try have : w.heap.size < w3.heap.size := by omega); (try have : w.heap.size + 1 < w3.heap.size := by omega); (try have : w.heap.size + 1 + 1 < w3.heap.size := by omega); (try have : w.heap.size + 1 + 1 + 1 < w3.heap.size := by omega)))
                  go_meet
                  case rel => exact ⟨rfl, by (repeat (first | (with_reducible assumption) | ((with_reducible refine Bk.new_ ?_); (first | rfl | (simp only [World.size_alloc, World.size_setCell, World.size_drew, World.heap_drewN]; done))) | (with_reducible refine Bk.alloc ?_ _) | (with_reducible refine Bk.drew ?_) | (with_reducible refine Bk.drewN ?_ _) | ((with_reducible refine Bk.far ?_ ?_ _); rotate_left; focus (simp only []; omega)) | ((with_reducible refine Bk.below ?_ (by with_reducible assumption) ?_); rotate_left; focus (go_size; done)))), by (repeat' (first | (with_reducible exact Below.refl _ _) | (with_reducible assumption) | (with_reducible refine Below.drew ?_) | (with_reducible refine below_drewN ?_ _) | ((with_reducible refine Below.alloc ?_ ?_ _); rotate_left; focus (go_size; done)) | ((with_reducible refine Below.setCell ?_ ?_ _); rotate_left; focus (go_size; done)) | ((with_reducible refine Below.trans ?_ (Below.mono (by with_reducible assumption) ?_)); rotate_left; focus (go_size; done))))⟩
                · go_wp2_with (first | ((go_at_call 10; with_reducible refine (HDA.out _).mono ?_); rintro _ w3 ⟨rfl, hb3⟩; have hb3s := hb3.size; (try simp only [World.size_alloc, World.size_setCell, World.size_drew, World.heap_drewN] at hb3s); obtain ⟨hb3c, hb3f⟩ := bcell hb3; (try have : w.heap.size < w3.heap.size := by omega); (try have : w.heap.size + 1 < w3.heap.size := by omega); (try have : w.heap.size + 1 + 1 < w3.heap.size := by omega); (try have : w.heap.size + 1 + 1 + 1 < w3.heap.size := by omega)))
                  go_meet
                  case rel => exact ⟨rfl, by (repeat (first | (with_reducible assumption) | ((with_reducible refine Bk.new_ ?_); (first | rfl | (simp only [World.size_alloc, World.size_setCell, World.size_drew, World.heap_drewN]; done))) | (with_reducible refine Bk.alloc ?_ _) | (with_reducible refine Bk.drew ?_) | (with_reducible refine Bk.drewN ?_ _) | ((with_reducible refine Bk.far ?_ ?_ _); rotate_left; focus (simp only []; omega)) | ((with_reducible refine Bk.below ?_ (by with_reducible assumption) ?_); rotate_left; focus (go_size; done)))), by (repeat' (first | (with_reducible exact Below.refl _ _) | (with_reducible assumption) | (with_reducible refine Below.drew ?_) | (with_reducible refine below_drewN ?_ _) | ((with_reducible refine Below.alloc ?_ ?_ _); rotate_left; focus (go_size; done)) | ((with_reducible refine Below.setCell ?_ ?_ _); rotate_left; focus (go_size; done)) | ((with_reducible refine Below.trans ?_ (Below.mono (by with_reducible assumption) ?_)); rotate_left; focus (go_size; done))))⟩
              · rw [hdb2] at HDB
                have e1 : (b == []) = false := by simpa using hb0
                have e2 : (b != []) = true := by simpa using hb0
                have e3 : b.isEmpty = false := by simpa using hb0
                clear hdb2 hb0
                rcases hnz with h2 | ⟨h2, h3⟩
                · have h2' : ¬ (1 : Int) < (a.length : Int) := by omega
                  go_wp2_with (first | ((go_at_call 10; with_reducible refine (HDA.out _).mono ?_); rintro _ w3 ⟨rfl, hb3⟩; have hb3s := hb3.size; (try simp only [World.size_alloc, World.size_setCell, World.size_drew, World.heap_drewN] at hb3s); obtain ⟨hb3c, hb3f⟩ := bcell hb3; (try have : w.heap.size < w3.heap.size := by omega); (try have : w.heap.size + 1 < w3.heap.size := by omega); (try have : w.heap.size + 1 + 1 < w3.heap.size := by omega); (try have : w.heap.size + 1 + 1 + 1 < w3.heap.size := by omega)) | ((go_at_call 10; with_reducible refine (HDB.out _).mono ?_); rintro _ w4 ⟨rfl, hb4⟩; have hb4s := hb4.size; (try simp only [World.size_alloc, World.size_setCell, World.size_drew, World.heap_drewN] at hb4s); obtain ⟨hb4c, hb4f⟩ := bcell hb4; (try have : w.heap.size < w4.heap.size := by omega); (try have : w.heap.size + 1 < w4.heap.size := by omega); (try have : w.heap.size + 1 + 1 < w4.heap.size := by omega); (try have : w.heap.size + 1 + 1 + 1 < w4.heap.size := by omega); (try have : w3.heap.size < w4.heap.size := by omega); (try have : w3.heap.size + 1 < w4.heap.size := by omega); (try have : w3.heap.size + 1 + 1 < w4.heap.size := by omega); (try have : w3.heap.size + 1 + 1 + 1 < w4.heap.size := by omega)))
                  go_meet
                  case rel => exact ⟨rfl, by (repeat (first | (with_reducible assumption) | ((with_reducible refine Bk.new_ ?_); (first | rfl | (simp only [World.size_alloc, World.size_setCell, World.size_drew, World.heap_drewN]; done))) | (with_reducible refine Bk.alloc ?_ _) | (with_reducible refine Bk.drew ?_) | (with_reducible refine Bk.drewN ?_ _) | ((with_reducible refine Bk.far ?_ ?_ _); rotate_left; focus (simp only []; omega)) | ((with_reducible refine Bk.below ?_ (by with_reducible assumption) ?_); rotate_left; focus (go_size; done)))), by (repeat' (first | (with_reducible exact Below.refl _ _) | (with_reducible assumption) | (with_reducible refine Below.drew ?_) | (with_reducible refine below_drewN ?_ _) | ((with_reducible refine Below.alloc ?_ ?_ _); rotate_left; focus (go_size; done)) | ((with_reducible refine Below.setCell ?_ ?_ _); rotate_left; focus (go_size; done)) | ((with_reducible refine Below.trans ?_ (Below.mono (by with_reducible assumption) ?_)); rotate_left; focus (go_size; done))))⟩
                · go_wp2_with (first | ((go_at_call 10; with_reducible refine (HDA.out _).mono ?_); rintro _ w3 ⟨rfl, hb3⟩; have hb3s := hb3.size; (try simp only [World.size_alloc, World.size_setCell, World.size_drew, World.heap_drewN] at hb3s); obtain ⟨hb3c, hb3f⟩ := bcell hb3; (try have : w.heap.size < w3.heap.size := by omega); (try have : w.heap.size + 1 < w3.heap.size := by omega); (try have : w.heap.size + 1 + 1 < w3.heap.size := by omega); (try have : w.heap.size + 1 + 1 + 1 < w3.heap.size := by omega)) | ((go_at_call 10; with_reducible refine (HDB.out _).mono ?_); rintro _ w4 ⟨rfl, hb4⟩; have hb4s := hb4.size; (try simp only [World.size_alloc, World.size_setCell, World.size_drew, World.heap_drewN] at hb4s); obtain ⟨hb4c, hb4f⟩ := bcell hb4; (try have : w.heap.size < w4.heap.size := by omega); (try have : w.heap.size + 1 < w4.heap.size := by omega); (try have : w.heap.size + 1 + 1 < w4.heap.size := by omega); (try have : w.heap.size + 1 + 1 + 1 < w4.heap.size := by omega); (try have : w3.heap.size < w4.heap.size := by omega); (try have : w3.heap.size + 1 < w4.heap.size := by omega); (try have : w3.heap.size + 1 + 1 < w4.heap.size := by omega); (try have : w3.heap.size + 1 + 1 + 1 < w4.heap.size := by omega)))
                  go_meet
                  case rel => exact ⟨rfl, by (repeat (first | (with_reducible assumption) | ((with_reducible refine Bk.new_ ?_); (first | rfl | (simp only [World.size_alloc, World.size_setCell, World.size_drew, World.heap_drewN]; done))) | (with_reducible refine Bk.alloc ?_ _) | (with_reducible refine Bk.drew ?_) | (with_reducible refine Bk.drewN ?_ _) | ((with_reducible refine Bk.far ?_ ?_ _); rotate_left; focus (simp only []; omega)) | ((with_reducible refine Bk.below ?_ (by with_reducible assumption) ?_); rotate_left; focus (go_size; done)))), by (repeat' (first | (with_reducible exact Below.refl _ _) | (with_reducible assumption) | (with_reducible refine Below.drew ?_) | (with_reducible refine below_drewN ?_ _) | ((with_reducible refine Below.alloc ?_ ?_ _); rotate_left; focus (go_size; done)) | ((with_reducible refine Below.setCell ?_ ?_ _); rotate_left; focus (go_size; done)) | ((with_reducible refine Below.trans ?_ (Below.mono (by with_reducible assumption) ?_)); rotate_left; focus (go_size; done))))⟩
            case rest =>
              obtain ⟨rfl, k2, mb⟩ := hcut
              clear hnz hdb2 HDA HDB K2 c0 c1 c2 c3 f0 f1 f2 f3
              have K2 := Lib.hid k2
              clear k2
              obtain ⟨w5, rfl⟩ : ∃ w5 : World, w5 = wc := ⟨_, rfl⟩
              go_upto_block 2 with fail
              go_cut [6] (fun s6 wx => s6 = .string ⟨(rt0 b).toArray⟩ ∧ wx = w5)
              case first =>
                go_wp2_with fail
                go_loopg [6] b.length (fun k s6 wr => ∃ P : List UInt8, k = P.length ∧ P.length ≤ b.length ∧ s6 = .string ⟨P.toArray⟩ ∧ Hid (rt0 b = rt0 P) ∧ wr = w5)
                case atStart => exact ⟨b, rfl, Nat.le_refl _, rfl, Lib.hid rfl, rfl⟩
                case round =>
                  obtain ⟨P, hk, hPl, rfl, HRT, rfl⟩ := hrel
                  have HK := Lib.hid hk
                  clear hk
                  by_cases hP : P = []
                  · subst hP
                    have hr0 : rt0 b = [] := HRT.out
                    go_wp2_with fail
                    go_meet
                    case rel => exact ⟨by rw [hr0], rfl⟩
                  · have hp1 : 0 < P.length := List.length_pos_iff.2 hP
                    have i1 : (0 : Int) ≤ (P.length : Int) - 1 := by omega
                    have i2 : (P.length : Int) - 1 < (P.length : Int) := by omega
                    have i4 : (P.length : Int) - 1 ≤ (P.length : Int) := by omega
                    have i3 : ((P.length : Int) - 1).toNat = P.length - 1 := by omega
                    have e1 : (P == []) = false := by simpa using hP
                    have e2 : (P != []) = true := by simpa using hP
                    have e3 : P.isEmpty = false := by simpa using hP
                    have hpn : P.length - 1 < (⟨P.toArray⟩ : ByteArray).size := by rw [Lib.size_mk]; omega
                    have hpc : ((⟨P.toArray⟩ : ByteArray)[P.length - 1]'hpn) = P[P.length - 1]'(by omega) := rfl
                    have HPC := Lib.hid hpc
                    clear hpc
                    by_cases hc : P[P.length - 1]'(by omega) = 48
                    · have e5 : ((((⟨P.toArray⟩ : ByteArray)[P.length - 1]'hpn).toNat : Int) == 48) = true := by rw [HPC.out, hc]; rfl
                      have hrt := rt0_zero hp1 hc
                      have HC := Lib.hid hrt
                      clear hc hrt hP
                      go_wp2_with fail
                      go_roundg (gk - 1)
                      case measure => have := HK.out; omega
                      case rel => exact ⟨P.take (P.length - 1), by rw [List.length_take]; have := HK.out; omega, by rw [List.length_take]; omega, by rw [ext_upto], Lib.hid (by rw [HRT.out, HC.out]), rfl⟩
                    · have e5 : ((((⟨P.toArray⟩ : ByteArray)[P.length - 1]'hpn).toNat : Int) == 48) = false := by
                        rw [HPC.out, beq_eq_false_iff_ne]
                        intro e
                        exact hc (UInt8.toNat_inj.1 (by have : (P[P.length - 1]'(by omega)).toNat = 48 := by omega
                                                        rw [this]; rfl))
                      have hr0 : rt0 b = P := by rw [HRT.out]; exact rt0_stay hp1 hc
                      clear hc hP
                      go_wp2_with fail
                      go_meet
                      case rel => exact ⟨by rw [hr0], rfl⟩
              case rest =>
                obtain ⟨rfl, rfl⟩ := hcut
                obtain ⟨w5, rfl⟩ : ∃ w5 : World, w5 = wc := ⟨_, rfl⟩
                have hbl := rt0_len b
                have E3 := Lib.hid (rt0_empty (a := a) HQB.out)
                have E4 := Lib.hid (rt0_end (a := a) HQB.out)
                have hall : (a ++ rt0 b).all isD = true := by rw [List.all_append, HQA.out, rt0_all HQB.out]; rfl
                obtain ⟨b', hb'⟩ : ∃ b', b' = rt0 b := ⟨_, rfl⟩
                rw [← hb'] at HR1 hbl E3 E4 hall
                rw [← hb']
                have hs1 : a.length + b'.length ≤ 9223372036854775807 := by omega
                have hs2 : (a.length : Int) + (b'.length : Int) ≤ 9223372036854775807 := by omega
                have hnum := fun W => number_r ⟨(a ++ b').toArray⟩ (by rw [Lib.size_mk, List.length_append]; omega) (by simpa using hall) W
                simp only [List.toList_toArray] at hnum
                rw [← cat_mk] at hnum
                have HNUM := Lib.hid hnum
                obtain ⟨v, hv⟩ : ∃ v, v = dvb (a ++ b') 0 := ⟨_, rfl⟩
                unfold parS1 at HR1
                rw [← hv] at HR1 E3 E4
                simp only [← hv] at HNUM
                have c0 := K2.out.cell 0 rfl
                have c1 := K2.out.cell 1 rfl
                have c2 := K2.out.cell 2 rfl
                have c3 := K2.out.cell 3 rfl
                have f0 := K2.out.frozen 0
                have f1 := K2.out.frozen 1
                have f2 := K2.out.frozen 2
                have f3 := K2.out.frozen 3
                have l5 := K2.out.lt
                clear hv hb' hall hnum HQA HQB
                go_wp2_with fail
                refine (HNUM.out _).mono ?_
                rintro _ w6 ⟨vv, rfl, hdg, hb6⟩
                have hs6 := hb6.size
                have K6 := Lib.hid (K2.out.below hb6 l5)
                have HDG := Lib.hid hdg
                obtain ⟨xs, ⟨A, C, rfl, hxc, hsl⟩, hdig⟩ := hdg
                have hx0 := hdig.zero_iff
                have hx34 := len_34 hdig
                obtain ⟨n, hn⟩ : ∃ n, n = xs.length := ⟨_, rfl⟩
                rw [← hn] at hx0 hx34 hxc HDG
                rw [← hn]
                have hsl2 := hsl
                clear hsl hsl2 hdig hn HNUM c0 c1 c2 c3 f0 f1 f2 f3
                have mb6 : Below w.heap.size w w6 := mb.trans (hb6.mono (by omega))
                have c0 := K6.out.cell 0 rfl
                have c1 := K6.out.cell 1 rfl
                have c2 := K6.out.cell 2 rfl
                have c3 := K6.out.cell 3 rfl
                have f0 := K6.out.frozen 0
                have f1 := K6.out.frozen 1
                have f2 := K6.out.frozen 2
                have f3 := K6.out.frozen 3
                have l6 := K6.out.lt
                have hle6 := mb6.size
                clear hb6 hs6 K2 mb l5
                by_cases hv0 : v = 0
                · subst hv0
                  obtain rfl : n = 0 := hx0.2 rfl
                  have hbe : b' = [] := E3.out rfl
                  subst hbe
                  rw [if_pos rfl] at HR1
                  have hr : R = (false, 0, 0, 0) := by first | exact HR1.out | (have h9 := HR1.out; simpa using h9)
                  subst hr
                  have hmk := make1_any false 0 0 (.slice A 0 C) w6 HDG.out B34_pos (by decide)
                  rw [(strip_nil 0).1, (strip_nil 0).2, sg_zero] at hmk
                  have HMK := Lib.hid hmk
                  clear HR1 E3 E4 hx0 hx34 hs1 hs2 hbl hmk
                  go_wp2_with fail
                  refine HMK.out.mono ?_
                  rintro _ w7 ⟨rfl, hb7⟩; have hb7s := hb7.size; (try simp only [World.size_alloc, World.size_setCell, World.size_drew, World.heap_drewN] at hb7s); obtain ⟨hb7c, hb7f⟩ := bcell hb7; (try have : w.heap.size < w7.heap.size := by omega); (try have : w.heap.size + 1 < w7.heap.size := by omega); (try have : w.heap.size + 1 + 1 < w7.heap.size := by omega); (try have : w.heap.size + 1 + 1 + 1 < w7.heap.size := by omega)
                  go_wp2_with fail
                  refine bodyPost_ret (by simp [results, Tryd.results5, go_sem, *]; try rfl) rfl ?_
                  exact ⟨rfl, by (repeat' (first | (with_reducible exact Below.refl _ _) | (with_reducible assumption) | (with_reducible refine Below.drew ?_) | (with_reducible refine below_drewN ?_ _) | ((with_reducible refine Below.alloc ?_ ?_ _); rotate_left; focus (go_size; done)) | ((with_reducible refine Below.setCell ?_ ?_ _); rotate_left; focus (go_size; done)) | ((with_reducible refine Below.trans ?_ (Below.mono (by with_reducible assumption) ?_)); rotate_left; focus (go_size; done))))⟩
                · have hn0 : n ≠ 0 := fun q => hv0 (hx0.1 q)
                  have hn0' : ((n : Int) == 0) = false := by rw [beq_eq_false_iff_ne]; omega
                  rw [if_neg hv0] at HR1
                  by_cases h18 : 18 < b'.length
                  · have hr : R = (false, 0, 0, 3) := by rw [HR1.out, if_pos (.inl h18)]
                    subst hr
                    have h18' : (18 : Int) < (b'.length : Int) := by omega
                    clear HR1 E3 E4 hx0 hx34 hs1 hs2 hbl hv0
                    go_wp2_with fail
                    refine bodyPost_ret (by simp [results, Tryd.results5, go_sem, *]; try rfl) rfl ?_
                    exact ⟨by (try dsimp only); rw [w0_0, w0_1], by (repeat' (first | (with_reducible exact Below.refl _ _) | (with_reducible assumption) | (with_reducible refine Below.drew ?_) | (with_reducible refine below_drewN ?_ _) | ((with_reducible refine Below.alloc ?_ ?_ _); rotate_left; focus (go_size; done)) | ((with_reducible refine Below.setCell ?_ ?_ _); rotate_left; focus (go_size; done)) | ((with_reducible refine Below.trans ?_ (Below.mono (by with_reducible assumption) ?_)); rotate_left; focus (go_size; done))))⟩
                  · have h18' : ¬ (18 : Int) < (b'.length : Int) := by omega
                    by_cases h34 : n ≤ 34
                    · have hvB : v < B34 := hx34.1 h34
                      have hr : R = (false, v, b'.length, 0) := by rw [HR1.out, if_neg (by rintro (q | q); exact h18 q; exact q hvB)]
                      subst hr
                      have h34' : ¬ (34 : Int) < (n : Int) := by omega
                      have hmk := make1_any false v b'.length (.slice A n C) w6 HDG.out hvB (by omega)
                      rw [(strip_fix E4.out).1, (strip_fix E4.out).2, sg_pos hv0] at hmk
                      obtain ⟨v1, hv1⟩ : ∃ v1, v1 = wd v 1 := ⟨_, rfl⟩
                      obtain ⟨v0, hv0'⟩ : ∃ v0, v0 = wd v 0 := ⟨_, rfl⟩
                      rw [← hv1, ← hv0'] at hmk
                      have HV1 := Lib.hid hv1
                      have HV0 := Lib.hid hv0'
                      have HMK := Lib.hid hmk
                      clear HR1 E3 E4 hx0 hx34 hs1 hs2 hbl hmk hv0 hv1 hv0' hvB
                      go_wp2_with fail
                      refine HMK.out.mono ?_
                      rintro _ w7 ⟨rfl, hb7⟩; have hb7s := hb7.size; (try simp only [World.size_alloc, World.size_setCell, World.size_drew, World.heap_drewN] at hb7s); obtain ⟨hb7c, hb7f⟩ := bcell hb7; (try have : w.heap.size < w7.heap.size := by omega); (try have : w.heap.size + 1 < w7.heap.size := by omega); (try have : w.heap.size + 1 + 1 < w7.heap.size := by omega); (try have : w.heap.size + 1 + 1 + 1 < w7.heap.size := by omega)
                      go_wp2_with fail
                      refine bodyPost_ret (by simp [results, Tryd.results5, go_sem, *]; try rfl) rfl ?_
                      exact ⟨by rw [← HV1.out, ← HV0.out], by (repeat' (first | (with_reducible exact Below.refl _ _) | (with_reducible assumption) | (with_reducible refine Below.drew ?_) | (with_reducible refine below_drewN ?_ _) | ((with_reducible refine Below.alloc ?_ ?_ _); rotate_left; focus (go_size; done)) | ((with_reducible refine Below.setCell ?_ ?_ _); rotate_left; focus (go_size; done)) | ((with_reducible refine Below.trans ?_ (Below.mono (by with_reducible assumption) ?_)); rotate_left; focus (go_size; done))))⟩
                    · have hvB : ¬ v < B34 := fun q => h34 (hx34.2 q)
                      have hr : R = (false, 0, 0, 3) := by rw [HR1.out, if_pos (.inr hvB)]
                      subst hr
                      have h34' : (34 : Int) < (n : Int) := by omega
                      clear HR1 E3 E4 hx0 hx34 hs1 hs2 hbl hv0 hvB
                      go_wp2_with fail
                      refine bodyPost_ret (by simp [results, Tryd.results5, go_sem, *]; try rfl) rfl ?_
                      exact ⟨by (try dsimp only); rw [w0_0, w0_1], by (repeat' (first | (with_reducible exact Below.refl _ _) | (with_reducible assumption) | (with_reducible refine Below.drew ?_) | (with_reducible refine below_drewN ?_ _) | ((with_reducible refine Below.alloc ?_ ?_ _); rotate_left; focus (go_size; done)) | ((with_reducible refine Below.setCell ?_ ?_ _); rotate_left; focus (go_size; done)) | ((with_reducible refine Below.trans ?_ (Below.mono (by with_reducible assumption) ?_)); rotate_left; focus (go_size; done))))⟩
set_option maxRecDepth 100000 in
set_option maxHeartbeats 40000000 in
theorem docparse_neg (m : List UInt8) (hml : m.length ≤ 1100000) (w : World) : Calls Tryd.prog 5 #[.string ⟨(45 :: m).toArray⟩] w (DPost (parS true (ahead m) (behind m) (hasDot m)) w) := by
  obtain ⟨R, hR⟩ : ∃ R, R = parS true (ahead m) (behind m) (hasDot m) := ⟨_, rfl⟩
  rw [← hR]
  have HR := Lib.hid hR
  clear hR
  unfold DPost
  have mb0 : Bk (w.alloc (.cells #[.bool false, .int .u64 0, .int .u64 0, .int .i64 0] 26)) w.heap.size 26 [.bool false, .int .u64 0, .int .u64 0, .int .i64 0] := by (repeat (first | (with_reducible assumption) | ((with_reducible refine Bk.new_ ?_); (first | rfl | (simp only [World.size_alloc, World.size_setCell, World.size_drew, World.heap_drewN]; done))) | (with_reducible refine Bk.alloc ?_ _) | (with_reducible refine Bk.drew ?_) | (with_reducible refine Bk.drewN ?_ _) | ((with_reducible refine Bk.far ?_ ?_ _); rotate_left; focus (simp only []; omega)) | ((with_reducible refine Bk.below ?_ (by with_reducible assumption) ?_); rotate_left; focus (go_size; done))))
  have mb : Below w.heap.size w (w.alloc (.cells #[.bool false, .int .u64 0, .int .u64 0, .int .i64 0] 26)) := by (repeat' (first | (with_reducible exact Below.refl _ _) | (with_reducible assumption) | (with_reducible refine Below.drew ?_) | (with_reducible refine below_drewN ?_ _) | ((with_reducible refine Below.alloc ?_ ?_ _); rotate_left; focus (go_size; done)) | ((with_reducible refine Below.setCell ?_ ?_ _); rotate_left; focus (go_size; done)) | ((with_reducible refine Below.trans ?_ (Below.mono (by with_reducible assumption) ?_)); rotate_left; focus (go_size; done))))
  have K2 := Lib.hid mb0
  have hex : (⟨(45 :: m).toArray⟩ : ByteArray).extract 1 (45 :: m).length = ⟨m.toArray⟩ := by rw [ext_from]; rfl
  clear mb0
  go_enter Tryd.func5, Tryd.ntmps5
  go_upto_if 16 with fail
  go_cut [0] (fun s0 wx => s0 = .string ⟨m.toArray⟩ ∧ wx = w.alloc (.cells #[.bool false, .int .u64 0, .int .u64 0, .int .i64 0] 26))
  case first =>
    have hl1 : 1 ≤ (45 :: m).length := by simp
    have hex2 := hex
    clear hex
    go_wp2_with fail
    go_meet
    case rel => exact ⟨by first | rfl | (rw [← hex2]; rfl) | (rw [← hex2]; simp), rfl⟩
  case rest =>
    obtain ⟨rfl, hwc⟩ := hcut
    rw [← hwc] at K2 mb
    clear hwc
    obtain ⟨w1, rfl⟩ : ∃ w1 : World, w1 = wc := ⟨_, rfl⟩
    clear hex
    go_upto_block 0 with fail
    go_cut [5, 6, 7] (fun s5 s6 s7 wx => ∃ a b : List UInt8, s5 = .string ⟨a.toArray⟩ ∧ s6 = .string ⟨b.toArray⟩ ∧ Parts m a b ∧ Bk wx w.heap.size 26 [.bool false, .int .u64 0, .int .u64 0, .int .i64 0] ∧ Below w.heap.size w wx)
    case first =>
      have hat : ∀ (t : Nat) (h : t < m.length), ((⟨m.toArray⟩ : ByteArray)[t]'(by rw [Lib.size_mk]; exact h)) = m[t] := fun t h => rfl
      have HAT := Lib.hid hat
      clear hat
      rcases dot_at m with ⟨i1, i2, i3, i4⟩ | ⟨i, i1, i2, i3, i4, i5⟩
      · have HN := Lib.hid (Lib.indexByte_none i1)
        have HA : Parts m m [] := ⟨i2.symm, i3.symm, ⟨fun _ => i4, fun _ => rfl⟩⟩
        clear i1 i2 i3 i4
        go_wp2_with fail
        go_loopg [5, 6, 7] m.length (fun k s5 s6 s7 wr => ∃ t : Nat, k + t = m.length ∧ s5 = .string ⟨m.toArray⟩ ∧ s6 = .string ⟨#[]⟩ ∧ s7 = .int .i64 t ∧ wr = w1)
        case atStart => exact ⟨0, by omega, rfl, rfl, rfl, rfl⟩
        case round =>
          obtain ⟨t, hk, rfl, rfl, rfl, rfl⟩ := hrel
          have HK := Lib.hid hk
          have htn : t ≤ m.length := by omega
          clear hk
          by_cases hlt : t < m.length
          · have e5 : ((((⟨m.toArray⟩ : ByteArray)[t]'(by rw [Lib.size_mk]; exact hlt)).toNat : Int) == 46) = false := by
              rw [HAT.out t hlt, beq_eq_false_iff_ne]
              intro e
              have e2 : m[t] = 46 := UInt8.toNat_inj.1 (by have : m[t].toNat = 46 := by omega
                                                           rw [this]; rfl)
              exact HN.out t (by rw [List.getElem?_eq_getElem hlt, e2])
            go_wp2_with fail
            go_roundg (gk - 1)
            case measure => have := HK.out; omega
            case rel => exact ⟨t + 1, by have := HK.out; omega, rfl, rfl, by go_num, rfl⟩
          · obtain rfl : t = m.length := by omega
            go_wp2_with fail
            go_meet
            case rel => exact ⟨m, [], rfl, rfl, HA, K2.out, mb⟩
      · obtain ⟨n1, n2⟩ := Lib.indexByte_some i1
        have HN := Lib.hid n2
        have HI := Lib.hid n1
        have HBI : Hid (behind m = m.drop (i + 1)) := Lib.hid i4
        have HAI : Hid (ahead m = m.take i) := Lib.hid i3
        have HDI : Hid (hasDot m = true) := Lib.hid i5
        clear i1 i3 i4 i5 n1 n2
        go_wp2_with fail
        go_loopg [5, 6, 7] m.length (fun k s5 s6 s7 wr => ∃ t : Nat, k + t = m.length ∧ t ≤ i ∧ s5 = .string ⟨m.toArray⟩ ∧ s6 = .string ⟨#[]⟩ ∧ s7 = .int .i64 t ∧ wr = w1)
        case atStart => exact ⟨0, by omega, by omega, rfl, rfl, rfl, rfl⟩
        case round =>
          obtain ⟨t, hk, hti, rfl, rfl, rfl, rfl⟩ := hrel
          have HK := Lib.hid hk
          have hlt : t < m.length := by omega
          clear hk
          by_cases hit : t = i
          · subst hit
            have e5 : ((((⟨m.toArray⟩ : ByteArray)[t]'(by rw [Lib.size_mk]; exact hlt)).toNat : Int) == 46) = true := by
              have e2 : m[t] = 46 := by
                have := HI.out
                rw [List.getElem?_eq_getElem hlt] at this
                exact Option.some.inj this
              rw [HAT.out t hlt, e2]; rfl
            have c1 : (0 : Int) ≤ (t : Int) := by omega
            have c2 : (t : Int) ≤ (m.length : Int) := by omega
            have c3 : (0 : Int) ≤ (t : Int) + 1 := by omega
            have c4 : (t : Int) + 1 ≤ (m.length : Int) := by omega
            have k2 := K2.out
            have c20 := k2.cell 0 rfl
            have c21 := k2.cell 1 rfl
            have c22 := k2.cell 2 rfl
            have c23 := k2.cell 3 rfl
            have f20 := k2.frozen 0
            have f21 := k2.frozen 1
            have f22 := k2.frozen 2
            have f23 := k2.frozen 3
            clear k2
            obtain ⟨b, hb⟩ : ∃ b, b = m.drop (t + 1) := ⟨_, rfl⟩
            rw [← hb] at HBI
            have HB := Lib.hid hb
            clear hb
            have hem := ext_empty m (t + 1)
            rw [← HB.out] at hem
            by_cases hb0 : b = []
            · have hr : R = (false, 0, 0, 5) := by
                rw [HR.out, parS_no (fun h => ?_)]
                have := h.2.2 HDI.out
                rw [HBI.out, hb0] at this
                exact Bool.noConfusion this
              have hem2 : ((⟨m.toArray⟩ : ByteArray).extract (t + 1) m.length).toList.isEmpty = true := by rw [hem, hb0]; rfl
              subst hr
              clear hem hb0
              go_wp2_with fail
              go_region
              go_wp2_with fail
              refine bodyPost_ret (by simp [results, Tryd.results5, go_sem, *]; try rfl) rfl ?_
              exact ⟨by (try dsimp only); rw [w0_0, w0_1], by (repeat' (first | (with_reducible exact Below.refl _ _) | (with_reducible assumption) | (with_reducible refine Below.drew ?_) | (with_reducible refine below_drewN ?_ _) | ((with_reducible refine Below.alloc ?_ ?_ _); rotate_left; focus (go_size; done)) | ((with_reducible refine Below.setCell ?_ ?_ _); rotate_left; focus (go_size; done)) | ((with_reducible refine Below.trans ?_ (Below.mono (by with_reducible assumption) ?_)); rotate_left; focus (go_size; done))))⟩
            · have hem2 : ((⟨m.toArray⟩ : ByteArray).extract (t + 1) m.length).toList.isEmpty = false := by rw [hem]; simpa using hb0
              have HA : Parts m (m.take t) (m.drop (t + 1)) := ⟨HAI.out.symm, by rw [HBI.out, HB.out], ⟨fun h => absurd h (by rw [← HB.out]; exact hb0), fun h => by rw [HDI.out] at h; exact Bool.noConfusion h⟩⟩
              clear hem hb0
              go_wp2_with fail
              go_region
              go_wp2_with fail
              go_meet
              case rel => exact ⟨m.take t, m.drop (t + 1), by rw [ext_upto], by rw [ext_from], HA, K2.out.drew, by (repeat' (first | (with_reducible exact Below.refl _ _) | (with_reducible assumption) | (with_reducible refine Below.drew ?_) | (with_reducible refine below_drewN ?_ _) | ((with_reducible refine Below.alloc ?_ ?_ _); rotate_left; focus (go_size; done)) | ((with_reducible refine Below.setCell ?_ ?_ _); rotate_left; focus (go_size; done)) | ((with_reducible refine Below.trans ?_ (Below.mono (by with_reducible assumption) ?_)); rotate_left; focus (go_size; done))))⟩
          · have e5 : ((((⟨m.toArray⟩ : ByteArray)[t]'(by rw [Lib.size_mk]; exact hlt)).toNat : Int) == 46) = false := by
              rw [HAT.out t hlt, beq_eq_false_iff_ne]
              intro e
              have e2 : m[t] = 46 := UInt8.toNat_inj.1 (by have : m[t].toNat = 46 := by omega
                                                           rw [this]; rfl)
              exact HN.out t (by omega) (by rw [List.getElem?_eq_getElem hlt, e2])
            have hti2 : t + 1 ≤ i := by omega
            clear hit
            go_wp2_with fail
            go_roundg (gk - 1)
            case measure => have := HK.out; omega
            case rel => exact ⟨t + 1, by have := HK.out; omega, hti2, rfl, rfl, by go_num, rfl⟩
    case rest =>
      obtain ⟨a, b, rfl, rfl, HAB, k2, mb⟩ := hcut
      clear K2
      have K2 := Lib.hid k2
      have l2 := k2.lt
      have c0 := k2.cell 0 rfl
      have c1 := k2.cell 1 rfl
      have c2 := k2.cell 2 rfl
      have c3 := k2.cell 3 rfl
      have f0 := k2.frozen 0
      have f1 := k2.frozen 1
      have f2 := k2.frozen 2
      have f3 := k2.frozen 3
      clear k2
      obtain ⟨w2, rfl⟩ : ∃ w2 : World, w2 = wc := ⟨_, rfl⟩
      obtain ⟨p1, p2, p3⟩ := HAB
      have hab := both_len m
      obtain ⟨dt, hdt⟩ : ∃ dt, dt = hasDot m := ⟨_, rfl⟩
      rw [← p1, ← p2] at hab
      rw [← p1, ← p2, ← hdt] at HR
      rw [← hdt] at p3
      have HP3 := Lib.hid p3
      clear p1 p2 p3 hdt
      have hab2 : a.length + b.length ≤ 1100000 := by omega
      have hda := fun W => digits_any ⟨a.toArray⟩ (by rw [Lib.size_mk]; omega) W
      have hdb := fun W => digits_any ⟨b.toArray⟩ (by rw [Lib.size_mk]; omega) W
      simp only [List.toList_toArray] at hda hdb
      have HDA := Lib.hid hda
      have HDB := Lib.hid hdb
      clear hda hdb hab hml
      cases hia : isDs a with
      | false =>
        rw [hia] at HDA
        have hr : R = (false, 0, 0, 5) := by rw [HR.out, parS_no (fun h => by rw [hia] at h; exact Bool.noConfusion h.1)]
        subst hr
        clear HR hia
        go_wp2_with (first | ((go_at_call 10; with_reducible refine (HDA.out _).mono ?_); rintro _ w3 ⟨rfl, hb3⟩; have hb3s := hb3.size; (try simp only [World.size_alloc, World.size_setCell, World.size_drew, World.heap_drewN] at hb3s); obtain ⟨hb3c, hb3f⟩ := bcell hb3; (try have : w.heap.size < w3.heap.size := by omega); (try have : w.heap.size + 1 < w3.heap.size := by omega); (try have : w.heap.size + 1 + 1 < w3.heap.size := by omega); (try have : w.heap.size + 1 + 1 + 1 < w3.heap.size := by omega)))
        refine bodyPost_ret (by simp [results, Tryd.results5, go_sem, *]; try rfl) rfl ?_
        exact ⟨by (try dsimp only); rw [w0_0, w0_1], by (repeat' (first | (with_reducible exact Below.refl _ _) | (with_reducible assumption) | (with_reducible refine Below.drew ?_) | (with_reducible refine below_drewN ?_ _) | ((with_reducible refine Below.alloc ?_ ?_ _); rotate_left; focus (go_size; done)) | ((with_reducible refine Below.setCell ?_ ?_ _); rotate_left; focus (go_size; done)) | ((with_reducible refine Below.trans ?_ (Below.mono (by with_reducible assumption) ?_)); rotate_left; focus (go_size; done))))⟩
      | true =>
        rw [hia] at HDA
        have hne : a ≠ [] := by rintro rfl; exact Bool.noConfusion hia
        have h0 : 0 < a.length := List.length_pos_iff.2 hne
        have hz0 : 0 < (⟨a.toArray⟩ : ByteArray).size := by rw [Lib.size_mk]; exact h0
        have hhd : ((⟨a.toArray⟩ : ByteArray)[0]'hz0).toNat = (a.headD 0).toNat := by
          cases a with
          | nil => exact absurd rfl hne
          | cons c r => rfl
        by_cases h1 : 1 < a.length ∧ (a.headD 0).toNat = 48
        · have h1' : (1 : Int) < (a.length : Int) := by omega
          have e5 : ((((⟨a.toArray⟩ : ByteArray)[0]'hz0).toNat : Int) == 48) = true := by rw [hhd, h1.2]; rfl
          have hr : R = (false, 0, 0, 5) := by rw [HR.out, parS_no (fun h => h.2.1 h1)]
          clear hhd hne
          subst hr
          clear HR hia h1
          go_wp2_with (first | ((go_at_call 10; with_reducible refine (HDA.out _).mono ?_); rintro _ w3 ⟨rfl, hb3⟩; have hb3s := hb3.size; (try simp only [World.size_alloc, World.size_setCell, World.size_drew, World.heap_drewN] at hb3s); obtain ⟨hb3c, hb3f⟩ := bcell hb3; (try have : w.heap.size < w3.heap.size := by omega); (try have : w.heap.size + 1 < w3.heap.size := by omega); (try have : w.heap.size + 1 + 1 < w3.heap.size := by omega); (try have : w.heap.size + 1 + 1 + 1 < w3.heap.size := by omega)))
          refine bodyPost_ret (by simp [results, Tryd.results5, go_sem, *]; try rfl) rfl ?_
          exact ⟨by (try dsimp only); rw [w0_0, w0_1], by (repeat' (first | (with_reducible exact Below.refl _ _) | (with_reducible assumption) | (with_reducible refine Below.drew ?_) | (with_reducible refine below_drewN ?_ _) | ((with_reducible refine Below.alloc ?_ ?_ _); rotate_left; focus (go_size; done)) | ((with_reducible refine Below.setCell ?_ ?_ _); rotate_left; focus (go_size; done)) | ((with_reducible refine Below.trans ?_ (Below.mono (by with_reducible assumption) ?_)); rotate_left; focus (go_size; done))))⟩
        · have hnz : (a.length : Int) ≤ 1 ∨ ((1 : Int) < (a.length : Int) ∧ ((((⟨a.toArray⟩ : ByteArray)[0]'hz0).toNat : Int) == 48) = false) := by
            by_cases h2 : 1 < a.length
            · right
              refine ⟨by omega, ?_⟩
              rw [hhd, beq_eq_false_iff_ne]
              intro e
              exact h1 ⟨h2, by omega⟩
            · left; omega
          by_cases hdb : b ≠ [] ∧ isDs b = false
          · obtain ⟨hb0, hdb⟩ := hdb
            have hr : R = (false, 0, 0, 5) := by
              rw [HR.out, parS_no (fun h => ?_)]
              cases hdt : dt with
              | false => exact hb0 (HP3.out.2 hdt)
              | true =>
                have := h.2.2 hdt
                rw [hdb] at this; exact Bool.noConfusion this
            subst hr
            have e1 : (b == []) = false := by simpa using hb0
            have e2 : (b != []) = true := by simpa using hb0
            have e3 : b.isEmpty = false := by simpa using hb0
            rw [hdb] at HDB
            clear HR hia hdb h1 hhd hne hb0
            rcases hnz with h2 | ⟨h2, h3⟩
            · have h2' : ¬ (1 : Int) < (a.length : Int) := by omega
              go_wp2_with (first | ((go_at_call 10; with_reducible refine (HDA.out _).mono ?_); rintro _ w3 ⟨rfl, hb3⟩; have hb3s := hb3.size; (try simp only [World.size_alloc, World.size_setCell, World.size_drew, World.heap_drewN] at hb3s); obtain ⟨hb3c, hb3f⟩ := bcell hb3; (try have : w.heap.size < w3.heap.size := by omega); (try have : w.heap.size + 1 < w3.heap.size := by omega); (try have : w.heap.size + 1 + 1 < w3.heap.size := by omega); (try have : w.heap.size + 1 + 1 + 1 < w3.heap.size := by omega)) | ((go_at_call 10; with_reducible refine (HDB.out _).mono ?_); rintro _ w4 ⟨rfl, hb4⟩; have hb4s := hb4.size; (try simp only [World.size_alloc, World.size_setCell, World.size_drew, World.heap_drewN] at hb4s); obtain ⟨hb4c, hb4f⟩ := bcell hb4; (try have : w.heap.size < w4.heap.size := by omega); (try have : w.heap.size + 1 < w4.heap.size := by omega); (try have : w.heap.size + 1 + 1 < w4.heap.size := by omega); (try have : w.heap.size + 1 + 1 + 1 < w4.heap.size := by omega); (try have : w3.heap.size < w4.heap.size := by omega); (try have : w3.heap.size + 1 < w4.heap.size := by omega); (try have : w3.heap.size + 1 + 1 < w4.heap.size := by omega); (try have : w3.heap.size + 1 + 1 + 1 < w4.heap.size := by omega)))
              refine bodyPost_ret (by simp [results, Tryd.results5, go_sem, *]; try rfl) rfl ?_
              exact ⟨by (try dsimp only); rw [w0_0, w0_1], by (repeat' (first | (with_reducible exact Below.refl _ _) | (with_reducible assumption) | (with_reducible refine Below.drew ?_) | (with_reducible refine below_drewN ?_ _) | ((with_reducible refine Below.alloc ?_ ?_ _); rotate_left; focus (go_size; done)) | ((with_reducible refine Below.setCell ?_ ?_ _); rotate_left; focus (go_size; done)) | ((with_reducible refine Below.trans ?_ (Below.mono (by with_reducible assumption) ?_)); rotate_left; focus (go_size; done))))⟩
            · go_wp2_with (first | ((go_at_call 10; with_reducible refine (HDA.out _).mono ?_); rintro _ w3 ⟨rfl, hb3⟩; have hb3s := hb3.size; (try simp only [World.size_alloc, World.size_setCell, World.size_drew, World.heap_drewN] at hb3s); obtain ⟨hb3c, hb3f⟩ := bcell hb3; (try have : w.heap.size < w3.heap.size := by omega); (try have : w.heap.size + 1 < w3.heap.size := by omega); (try have : w.heap.size + 1 + 1 < w3.heap.size := by omega); (try have : w.heap.size + 1 + 1 + 1 < w3.heap.size := by omega)) | ((go_at_call 10; with_reducible refine (HDB.out _).mono ?_); rintro _ w4 ⟨rfl, hb4⟩; have hb4s := hb4.size; (try simp only [World.size_alloc, World.size_setCell, World.size_drew, World.heap_drewN] at hb4s); obtain ⟨hb4c, hb4f⟩ := bcell hb4; (try have : w.heap.size < w4.heap.size := by omega); (try have : w.heap.size + 1 < w4.heap.size := by omega); (try have : w.heap.size + 1 + 1 < w4.heap.size := by omega); (try have : w.heap.size + 1 + 1 + 1 < w4.heap.size := by omega); (try have : w3.heap.size < w4.heap.size := by omega); (try have : w3.heap.size + 1 < w4.heap.size := by omega); (try have : w3.heap.size + 1 + 1 < w4.heap.size := by omega); (try have : w3.heap.size + 1 + 1 + 1 < w4.heap.size := by omega)))
              refine bodyPost_ret (by simp [results, Tryd.results5, go_sem, *]; try rfl) rfl ?_
              exact ⟨by (try dsimp only); rw [w0_0, w0_1], by (repeat' (first | (with_reducible exact Below.refl _ _) | (with_reducible assumption) | (with_reducible refine Below.drew ?_) | (with_reducible refine below_drewN ?_ _) | ((with_reducible refine Below.alloc ?_ ?_ _); rotate_left; focus (go_size; done)) | ((with_reducible refine Below.setCell ?_ ?_ _); rotate_left; focus (go_size; done)) | ((with_reducible refine Below.trans ?_ (Below.mono (by with_reducible assumption) ?_)); rotate_left; focus (go_size; done))))⟩
          · have hdb2 : b = [] ∨ (b ≠ [] ∧ isDs b = true) := by
              by_cases q : b = []
              · exact .inl q
              · right
                refine ⟨q, ?_⟩
                cases h : isDs b with
                | true => rfl
                | false => exact absurd ⟨q, h⟩ hdb
            have hr : R = parS1 true a (rt0 b) := by
              rw [HR.out]
              refine parS_yes ⟨hia, h1, fun h => ?_⟩
              rcases hdb2 with q | ⟨_, q⟩
              · have := HP3.out.1 q; rw [this] at h; exact Bool.noConfusion h
              · exact q
            have qa : a.all isD = true := by
              unfold isDs at hia
              rw [Bool.and_eq_true] at hia; exact hia.2
            have qb : b.all isD = true := by
              rcases hdb2 with q | ⟨_, q⟩
              · rw [q]; rfl
              · unfold isDs at q
                rw [Bool.and_eq_true] at q; exact q.2
            have HQA := Lib.hid qa
            have HQB := Lib.hid qb
            have HR1 := Lib.hid hr
            clear HR hr qa qb hia hdb h1 hhd hne HP3
            go_upto_region 12 with fail
            go_cut [61] (fun s61 wx => s61 = .bool false ∧ Bk wx w.heap.size 26 [.bool false, .int .u64 0, .int .u64 0, .int .i64 0] ∧ Below w.heap.size w wx)
            case first =>
              have k2 := K2.out
              rcases hdb2 with rfl | ⟨hb0, hdb2⟩
              · clear HDB
                rcases hnz with h2 | ⟨h2, h3⟩
                · have h2' : ¬ (1 : Int) < (a.length : Int) := by omega
                  go_wp2_with (first | ((go_at_call 10; with_reducible refine (HDA.out _).mono ?_); rintro _ w3 ⟨rfl, hb3⟩; have hb3s := hb3.size; (try simp only [World.size_alloc, World.size_setCell, World.size_drew, World.heap_drewN] at hb3s); obtain ⟨hb3c, hb3f⟩ := bcell hb3; (try have : w.heap.size < w3.heap.size := by omega); (try have : w.heap.size + 1 < w3.heap.size := by omega); (try have : w.heap.size + 1 + 1 < w3.heap.size := by omega); (try have : w.heap.size + 1 + 1 + 1 < w3.heap.size := by omega)))
                  go_meet
                  case rel => exact ⟨rfl, by (repeat (first | (with_reducible assumption) | ((with_reducible refine Bk.new_ ?_); (first | rfl | (simp only [World.size_alloc, World.size_setCell, World.size_drew, World.heap_drewN]; done))) | (with_reducible refine Bk.alloc ?_ _) | (with_reducible refine Bk.drew ?_) | (with_reducible refine Bk.drewN ?_ _) | ((with_reducible refine Bk.far ?_ ?_ _); rotate_left; focus (simp only []; omega)) | ((with_reducible refine Bk.below ?_ (by with_reducible assumption) ?_); rotate_left; focus (go_size; done)))), by (repeat' (first | (with_reducible exact Below.refl _ _) | (with_reducible assumption) | (with_reducible refine Below.drew ?_) | (with_reducible refine below_drewN ?_ _) | ((with_reducible refine Below.alloc ?_ ?_ _); rotate_left; focus (go_size; done)) | ((with_reducible refine Below.setCell ?_ ?_ _); rotate_left; focus (go_size; done)) | ((with_reducible refine Below.trans ?_ (Below.mono (by with_reducible assumption) ?_)); rotate_left; focus (go_size; done))))⟩
                · go_wp2_with (first | ((go_at_call 10; with_reducible refine (HDA.out _).mono ?_); rintro _ w3 ⟨rfl, hb3⟩; have hb3s := hb3.size; (try simp only [World.size_alloc, World.size_setCell, World.size_drew, World.heap_drewN] at hb3s); obtain ⟨hb3c, hb3f⟩ := bcell hb3; (try have : w.heap.size < w3.heap.size := by omega); (try have : w.heap.size + 1 < w3.heap.size := by omega); (try have : w.heap.size + 1 + 1 < w3.heap.size := by omega); (try have : w.heap.size + 1 + 1 + 1 < w3.heap.size := by omega)))
                  go_meet
                  case rel => exact ⟨rfl, by (repeat (first | (with_reducible assumption) | ((with_reducible refine Bk.new_ ?_); (first | rfl | (simp only [World.size_alloc, World.size_setCell, World.size_drew, World.heap_drewN]; done))) | (with_reducible refine Bk.alloc ?_ _) | (with_reducible refine Bk.drew ?_) | (with_reducible refine Bk.drewN ?_ _) | ((with_reducible refine Bk.far ?_ ?_ _); rotate_left; focus (simp only []; omega)) | ((with_reducible refine Bk.below ?_ (by with_reducible assumption) ?_); rotate_left; focus (go_size; done)))), by (repeat' (first | (with_reducible exact Below.refl _ _) | (with_reducible assumption) | (with_reducible refine Below.drew ?_) | (with_reducible refine below_drewN ?_ _) | ((with_reducible refine Below.alloc ?_ ?_ _); rotate_left; focus (go_size; done)) | ((with_reducible refine Below.setCell ?_ ?_ _); rotate_left; focus (go_size; done)) | ((with_reducible refine Below.trans ?_ (Below.mono (by with_reducible assumption) ?_)); rotate_left; focus (go_size; done))))⟩
              · rw [hdb2] at HDB
                have e1 : (b == []) = false := by simpa using hb0
                have e2 : (b != []) = true := by simpa using hb0
                have e3 : b.isEmpty = false := by simpa using hb0
                clear hdb2 hb0
                rcases hnz with h2 | ⟨h2, h3⟩
                · have h2' : ¬ (1 : Int) < (a.length : Int) := by omega
                  go_wp2_with (first | ((go_at_call 10; with_reducible refine (HDA.out _).mono ?_); rintro _ w3 ⟨rfl, hb3⟩; have hb3s := hb3.size; (try simp only [World.size_alloc, World.size_setCell, World.size_drew, World.heap_drewN] at hb3s); obtain ⟨hb3c, hb3f⟩ := bcell hb3; (try have : w.heap.size < w3.heap.size := by omega); (try have : w.heap.size + 1 < w3.heap.size := by omega); (try have : w.heap.size + 1 + 1 < w3.heap.size := by omega); (try have : w.heap.size + 1 + 1 + 1 < w3.heap.size := by omega)) | ((go_at_call 10; with_reducible refine (HDB.out _).mono ?_); rintro _ w4 ⟨rfl, hb4⟩; have hb4s := hb4.size; (try simp only [World.size_alloc, World.size_setCell, World.size_drew, World.heap_drewN] at hb4s); obtain ⟨hb4c, hb4f⟩ := bcell hb4; (try have : w.heap.size < w4.heap.size := by omega); (try have : w.heap.size + 1 < w4.heap.size := by omega); (try have : w.heap.size + 1 + 1 < w4.heap.size := by omega); (try have : w.heap.size + 1 + 1 + 1 < w4.heap.size := by omega); (try have : w3.heap.size < w4.heap.size := by omega); (try have : w3.heap.size + 1 < w4.heap.size := by omega); (try have : w3.heap.size + 1 + 1 < w4.heap.size := by omega); (try have : w3.heap.size + 1 + 1 + 1 < w4.heap.size := by omega)))
                  go_meet
                  case rel => exact ⟨rfl, by (repeat (first | (with_reducible assumption) | ((with_reducible refine Bk.new_ ?_); (first | rfl | (simp only [World.size_alloc, World.size_setCell, World.size_drew, World.heap_drewN]; done))) | (with_reducible refine Bk.alloc ?_ _) | (with_reducible refine Bk.drew ?_) | (with_reducible refine Bk.drewN ?_ _) | ((with_reducible refine Bk.far ?_ ?_ _); rotate_left; focus (simp only []; omega)) | ((with_reducible refine Bk.below ?_ (by with_reducible assumption) ?_); rotate_left; focus (go_size; done)))), by (repeat' (first | (with_reducible exact Below.refl _ _) | (with_reducible assumption) | (with_reducible refine Below.drew ?_) | (with_reducible refine below_drewN ?_ _) | ((with_reducible refine Below.alloc ?_ ?_ _); rotate_left; focus (go_size; done)) | ((with_reducible refine Below.setCell ?_ ?_ _); rotate_left; focus (go_size; done)) | ((with_reducible refine Below.trans ?_ (Below.mono (by with_reducible assumption) ?_)); rotate_left; focus (go_size; done))))⟩
                · go_wp2_with (first | ((go_at_call 10; with_reducible refine (HDA.out _).mono ?_); rintro _ w3 ⟨rfl, hb3⟩; have hb3s := hb3.size; (try simp only [World.size_alloc, World.size_setCell, World.size_drew, World.heap_drewN] at hb3s); obtain ⟨hb3c, hb3f⟩ := bcell hb3; (try have : w.heap.size < w3.heap.size := by omega); (try have : w.heap.size + 1 < w3.heap.size := by omega); (try have : w.heap.size + 1 + 1 < w3.heap.size := by omega); (try have : w.heap.size + 1 + 1 + 1 < w3.heap.size := by omega)) | ((go_at_call 10; with_reducible refine (HDB.out _).mono ?_); rintro _ w4 ⟨rfl, hb4⟩; have hb4s := hb4.size; (try simp only [World.size_alloc, World.size_setCell, World.size_drew, World.heap_drewN] at hb4s); obtain ⟨hb4c, hb4f⟩ := bcell hb4; (try have : w.heap.size < w4.heap.size := by omega); (try have : w.heap.size + 1 < w4.heap.size := by omega); (try have : w.heap.size + 1 + 1 < w4.heap.size := by omega); (try have : w.heap.size + 1 + 1 + 1 < w4.heap.size := by omega); (try have : w3.heap.size < w4.heap.size := by omega); (try have : w3.heap.size + 1 < w4.heap.size := by omega); (try have : w3.heap.size + 1 + 1 < w4.heap.size := by omega); (try have : w3.heap.size + 1 + 1 + 1 < w4.heap.size := by omega)))
                  go_meet
                  case rel => exact ⟨rfl, by (repeat (first | (with_reducible assumption) | ((with_reducible refine Bk.new_ ?_); (first | rfl | (simp only [World.size_alloc, World.size_setCell, World.size_drew, World.heap_drewN]; done))) | (with_reducible refine Bk.alloc ?_ _) | (with_reducible refine Bk.drew ?_) | (with_reducible refine Bk.drewN ?_ _) | ((with_reducible refine Bk.far ?_ ?_ _); rotate_left; focus (simp only []; omega)) | ((with_reducible refine Bk.below ?_ (by with_reducible assumption) ?_); rotate_left; focus (go_size; done)))), by (repeat' (first | (with_reducible exact Below.refl _ _) | (with_reducible assumption) | (with_reducible refine Below.drew ?_) | (with_reducible refine below_drewN ?_ _) | ((with_reducible refine Below.alloc ?_ ?_ _); rotate_left; focus (go_size; done)) | ((with_reducible refine Below.setCell ?_ ?_ _); rotate_left; focus (go_size; done)) | ((with_reducible refine Below.trans ?_ (Below.mono (by with_reducible assumption) ?_)); rotate_left; focus (go_size; done))))⟩
            case rest =>
              obtain ⟨rfl, k2, mb⟩ := hcut
              clear hnz hdb2 HDA HDB K2 c0 c1 c2 c3 f0 f1 f2 f3
              have K2 := Lib.hid k2
              clear k2
              obtain ⟨w5, rfl⟩ : ∃ w5 : World, w5 = wc := ⟨_, rfl⟩
              go_upto_block 2 with fail
              go_cut [6] (fun s6 wx => s6 = .string ⟨(rt0 b).toArray⟩ ∧ wx = w5)
              case first =>
                go_wp2_with fail
                go_loopg [6] b.length (fun k s6 wr => ∃ P : List UInt8, k = P.length ∧ P.length ≤ b.length ∧ s6 = .string ⟨P.toArray⟩ ∧ Hid (rt0 b = rt0 P) ∧ wr = w5)
                case atStart => exact ⟨b, rfl, Nat.le_refl _, rfl, Lib.hid rfl, rfl⟩
                case round =>
                  obtain ⟨P, hk, hPl, rfl, HRT, rfl⟩ := hrel
                  have HK := Lib.hid hk
                  clear hk
                  by_cases hP : P = []
                  · subst hP
                    have hr0 : rt0 b = [] := HRT.out
                    go_wp2_with fail
                    go_meet
                    case rel => exact ⟨by rw [hr0], rfl⟩
                  · have hp1 : 0 < P.length := List.length_pos_iff.2 hP
                    have i1 : (0 : Int) ≤ (P.length : Int) - 1 := by omega
                    have i2 : (P.length : Int) - 1 < (P.length : Int) := by omega
                    have i4 : (P.length : Int) - 1 ≤ (P.length : Int) := by omega
                    have i3 : ((P.length : Int) - 1).toNat = P.length - 1 := by omega
                    have e1 : (P == []) = false := by simpa using hP
                    have e2 : (P != []) = true := by simpa using hP
                    have e3 : P.isEmpty = false := by simpa using hP
                    have hpn : P.length - 1 < (⟨P.toArray⟩ : ByteArray).size := by rw [Lib.size_mk]; omega
                    have hpc : ((⟨P.toArray⟩ : ByteArray)[P.length - 1]'hpn) = P[P.length - 1]'(by omega) := rfl
                    have HPC := Lib.hid hpc
                    clear hpc
                    by_cases hc : P[P.length - 1]'(by omega) = 48
                    · have e5 : ((((⟨P.toArray⟩ : ByteArray)[P.length - 1]'hpn).toNat : Int) == 48) = true := by rw [HPC.out, hc]; rfl
                      have hrt := rt0_zero hp1 hc
                      have HC := Lib.hid hrt
                      clear hc hrt hP
                      go_wp2_with fail
                      go_roundg (gk - 1)
                      case measure => have := HK.out; omega
                      case rel => exact ⟨P.take (P.length - 1), by rw [List.length_take]; have := HK.out; omega, by rw [List.length_take]; omega, by rw [ext_upto], Lib.hid (by rw [HRT.out, HC.out]), rfl⟩
                    · have e5 : ((((⟨P.toArray⟩ : ByteArray)[P.length - 1]'hpn).toNat : Int) == 48) = false := by
                        rw [HPC.out, beq_eq_false_iff_ne]
                        intro e
                        exact hc (UInt8.toNat_inj.1 (by have : (P[P.length - 1]'(by omega)).toNat = 48 := by omega
                                                        rw [this]; rfl))
                      have hr0 : rt0 b = P := by rw [HRT.out]; exact rt0_stay hp1 hc
                      clear hc hP
                      go_wp2_with fail
                      go_meet
                      case rel => exact ⟨by rw [hr0], rfl⟩
              case rest =>
                obtain ⟨rfl, rfl⟩ := hcut
                obtain ⟨w5, rfl⟩ : ∃ w5 : World, w5 = wc := ⟨_, rfl⟩
                have hbl := rt0_len b
                have E3 := Lib.hid (rt0_empty (a := a) HQB.out)
                have E4 := Lib.hid (rt0_end (a := a) HQB.out)
                have hall : (a ++ rt0 b).all isD = true := by rw [List.all_append, HQA.out, rt0_all HQB.out]; rfl
                obtain ⟨b', hb'⟩ : ∃ b', b' = rt0 b := ⟨_, rfl⟩
                rw [← hb'] at HR1 hbl E3 E4 hall
                rw [← hb']
                have hs1 : a.length + b'.length ≤ 9223372036854775807 := by omega
                have hs2 : (a.length : Int) + (b'.length : Int) ≤ 9223372036854775807 := by omega
                have hnum := fun W => number_r ⟨(a ++ b').toArray⟩ (by rw [Lib.size_mk, List.length_append]; omega) (by simpa using hall) W
                simp only [List.toList_toArray] at hnum
                rw [← cat_mk] at hnum
                have HNUM := Lib.hid hnum
                obtain ⟨v, hv⟩ : ∃ v, v = dvb (a ++ b') 0 := ⟨_, rfl⟩
                unfold parS1 at HR1
                rw [← hv] at HR1 E3 E4
                simp only [← hv] at HNUM
                have c0 := K2.out.cell 0 rfl
                have c1 := K2.out.cell 1 rfl
                have c2 := K2.out.cell 2 rfl
                have c3 := K2.out.cell 3 rfl
                have f0 := K2.out.frozen 0
                have f1 := K2.out.frozen 1
                have f2 := K2.out.frozen 2
                have f3 := K2.out.frozen 3
                have l5 := K2.out.lt
                clear hv hb' hall hnum HQA HQB
                go_wp2_with fail
                refine (HNUM.out _).mono ?_
                rintro _ w6 ⟨vv, rfl, hdg, hb6⟩
                have hs6 := hb6.size
                have K6 := Lib.hid (K2.out.below hb6 l5)
                have HDG := Lib.hid hdg
                obtain ⟨xs, ⟨A, C, rfl, hxc, hsl⟩, hdig⟩ := hdg
                have hx0 := hdig.zero_iff
                have hx34 := len_34 hdig
                obtain ⟨n, hn⟩ : ∃ n, n = xs.length := ⟨_, rfl⟩
                rw [← hn] at hx0 hx34 hxc HDG
                rw [← hn]
                have hsl2 := hsl
                clear hsl hsl2 hdig hn HNUM c0 c1 c2 c3 f0 f1 f2 f3
                have mb6 : Below w.heap.size w w6 := mb.trans (hb6.mono (by omega))
                have c0 := K6.out.cell 0 rfl
                have c1 := K6.out.cell 1 rfl
                have c2 := K6.out.cell 2 rfl
                have c3 := K6.out.cell 3 rfl
                have f0 := K6.out.frozen 0
                have f1 := K6.out.frozen 1
                have f2 := K6.out.frozen 2
                have f3 := K6.out.frozen 3
                have l6 := K6.out.lt
                have hle6 := mb6.size
                clear hb6 hs6 K2 mb l5
                by_cases hv0 : v = 0
                · subst hv0
                  obtain rfl : n = 0 := hx0.2 rfl
                  have hbe : b' = [] := E3.out rfl
                  subst hbe
                  rw [if_pos rfl] at HR1
                  have hr : R = (false, 0, 0, 5) := by first | exact HR1.out | (have h9 := HR1.out; simpa using h9)
                  subst hr
                  clear HR1 E3 E4 hx0 hx34 hs1 hs2 hbl
                  go_wp2_with fail
                  refine bodyPost_ret (by simp [results, Tryd.results5, go_sem, *]; try rfl) rfl ?_
                  exact ⟨by (try dsimp only); rw [w0_0, w0_1], by (repeat' (first | (with_reducible exact Below.refl _ _) | (with_reducible assumption) | (with_reducible refine Below.drew ?_) | (with_reducible refine below_drewN ?_ _) | ((with_reducible refine Below.alloc ?_ ?_ _); rotate_left; focus (go_size; done)) | ((with_reducible refine Below.setCell ?_ ?_ _); rotate_left; focus (go_size; done)) | ((with_reducible refine Below.trans ?_ (Below.mono (by with_reducible assumption) ?_)); rotate_left; focus (go_size; done))))⟩
                · have hn0 : n ≠ 0 := fun q => hv0 (hx0.1 q)
                  have hn0' : ((n : Int) == 0) = false := by rw [beq_eq_false_iff_ne]; omega
                  rw [if_neg hv0] at HR1
                  by_cases h18 : 18 < b'.length
                  · have hr : R = (false, 0, 0, 3) := by rw [HR1.out, if_pos (.inl h18)]
                    subst hr
                    have h18' : (18 : Int) < (b'.length : Int) := by omega
                    clear HR1 E3 E4 hx0 hx34 hs1 hs2 hbl hv0
                    go_wp2_with fail
                    refine bodyPost_ret (by simp [results, Tryd.results5, go_sem, *]; try rfl) rfl ?_
                    exact ⟨by (try dsimp only); rw [w0_0, w0_1], by (repeat' (first | (with_reducible exact Below.refl _ _) | (with_reducible assumption) | (with_reducible refine Below.drew ?_) | (with_reducible refine below_drewN ?_ _) | ((with_reducible refine Below.alloc ?_ ?_ _); rotate_left; focus (go_size; done)) | ((with_reducible refine Below.setCell ?_ ?_ _); rotate_left; focus (go_size; done)) | ((with_reducible refine Below.trans ?_ (Below.mono (by with_reducible assumption) ?_)); rotate_left; focus (go_size; done))))⟩
                  · have h18' : ¬ (18 : Int) < (b'.length : Int) := by omega
                    by_cases h34 : n ≤ 34
                    · have hvB : v < B34 := hx34.1 h34
                      have hr : R = (true, v, b'.length, 0) := by rw [HR1.out, if_neg (by rintro (q | q); exact h18 q; exact q hvB)]
                      subst hr
                      have h34' : ¬ (34 : Int) < (n : Int) := by omega
                      have hmk := make1_any true v b'.length (.slice A n C) w6 HDG.out hvB (by omega)
                      rw [(strip_fix E4.out).1, (strip_fix E4.out).2, sg_pos hv0] at hmk
                      obtain ⟨v1, hv1⟩ : ∃ v1, v1 = wd v 1 := ⟨_, rfl⟩
                      obtain ⟨v0, hv0'⟩ : ∃ v0, v0 = wd v 0 := ⟨_, rfl⟩
                      rw [← hv1, ← hv0'] at hmk
                      have HV1 := Lib.hid hv1
                      have HV0 := Lib.hid hv0'
                      have HMK := Lib.hid hmk
                      clear HR1 E3 E4 hx0 hx34 hs1 hs2 hbl hmk hv0 hv1 hv0' hvB
                      go_wp2_with fail
                      refine HMK.out.mono ?_
                      rintro _ w7 ⟨rfl, hb7⟩; have hb7s := hb7.size; (try simp only [World.size_alloc, World.size_setCell, World.size_drew, World.heap_drewN] at hb7s); obtain ⟨hb7c, hb7f⟩ := bcell hb7; (try have : w.heap.size < w7.heap.size := by omega); (try have : w.heap.size + 1 < w7.heap.size := by omega); (try have : w.heap.size + 1 + 1 < w7.heap.size := by omega); (try have : w.heap.size + 1 + 1 + 1 < w7.heap.size := by omega)
                      go_wp2_with fail
                      refine bodyPost_ret (by simp [results, Tryd.results5, go_sem, *]; try rfl) rfl ?_
                      exact ⟨by rw [← HV1.out, ← HV0.out], by (repeat' (first | (with_reducible exact Below.refl _ _) | (with_reducible assumption) | (with_reducible refine Below.drew ?_) | (with_reducible refine below_drewN ?_ _) | ((with_reducible refine Below.alloc ?_ ?_ _); rotate_left; focus (go_size; done)) | ((with_reducible refine Below.setCell ?_ ?_ _); rotate_left; focus (go_size; done)) | ((with_reducible refine Below.trans ?_ (Below.mono (by with_reducible assumption) ?_)); rotate_left; focus (go_size; done))))⟩
                    · have hvB : ¬ v < B34 := fun q => h34 (hx34.2 q)
                      have hr : R = (false, 0, 0, 3) := by rw [HR1.out, if_pos (.inr hvB)]
                      subst hr
                      have h34' : (34 : Int) < (n : Int) := by omega
                      clear HR1 E3 E4 hx0 hx34 hs1 hs2 hbl hv0 hvB
                      go_wp2_with fail
                      refine bodyPost_ret (by simp [results, Tryd.results5, go_sem, *]; try rfl) rfl ?_
                      exact ⟨by (try dsimp only); rw [w0_0, w0_1], by (repeat' (first | (with_reducible exact Below.refl _ _) | (with_reducible assumption) | (with_reducible refine Below.drew ?_) | (with_reducible refine below_drewN ?_ _) | ((with_reducible refine Below.alloc ?_ ?_ _); rotate_left; focus (go_size; done)) | ((with_reducible refine Below.setCell ?_ ?_ _); rotate_left; focus (go_size; done)) | ((with_reducible refine Below.trans ?_ (Below.mono (by with_reducible assumption) ?_)); rotate_left; focus (go_size; done))))⟩
theorem docparse_any (l : List UInt8) (hl : l.length ≤ 1100000) (w : World) : Calls Tryd.prog 5 #[.string ⟨l.toArray⟩] w (DPost (parD l) w) := by
  unfold parD
  cases l with
  | nil => exact docparse_pos [] (by decide) (fun c r h => by cases h) w
  | cons c r =>
    by_cases hc : c = 45
    · subst hc
      exact docparse_neg r (by simp only [List.length_cons] at hl; omega) w
    · have h := past_no (l := c :: r) (fun d q e => by injection e with e1 e2; rw [← e1]; exact hc)
      rw [h.1, h.2]
      exact docparse_pos (c :: r) hl (fun d q e => by injection e with e1 e2; rw [← e1]; exact hc) w
end Go.Proofs.YtogpbcllbbpgbaaDoor

set_option linter.unusedSimpArgs false
set_option linter.unusedVariables false
namespace Go.Proofs.YtogpbcllbbpgbaaDoor
open Go.RowKit

set_option maxHeartbeats 2000000 in
theorem print_bad (b : Bool) (c : Nat) (s : Int) (hc : c < 2 ^ 128) (h : dform b c s = false) (w : World) : Calls Tryd.prog 8 #[.agg #[.bool b, .int .u64 (wd (c) 1), .int .u64 (wd (c) 0), .int .i64 s]] w fun e w' => e = .returned (.tuple #[.string ⟨#[]⟩, .int .i64 2]) ∧ Below w.heap.size w w' := by
  have HF := Lib.hid (fun g W hg => formed_one b c s hc g W hg)
  rw [h] at HF
  simp only [ferr, if_pos, if_neg, Bool.false_eq_true, if_true, if_false] at HF
  generalize wd c 0 = x0 at *
  generalize wd c 1 = x1 at *
  clear hc h
  go_enter Tryd.func8, Tryd.ntmps8
  go_wp2_with fail
  (with_reducible refine (HF.out _ _ ?hg).mono ?_)
  case hg => ((repeat (first | (with_reducible assumption) | ((with_reducible refine Bk.new_ ?_); (first | rfl | (simp only [World.size_alloc, World.size_setCell, World.size_drew, World.heap_drewN]; done))) | (with_reducible refine Bk.alloc ?_ _) | (with_reducible refine Bk.drew ?_) | (with_reducible refine Bk.drewN ?_ _) | ((with_reducible refine Bk.far ?_ ?_ _); rotate_left; focus (simp only []; omega)) | ((with_reducible refine Bk.below ?_ (by with_reducible assumption) ?_); rotate_left; focus (go_size; done)))); done)
  rintro _ w1 ⟨rfl, hb1⟩; have hb1s := hb1.size; (try simp only [World.size_alloc, World.size_setCell, World.size_drew, World.heap_drewN] at hb1s); obtain ⟨hb1c, hb1f⟩ := bcell hb1; (try have : w.heap.size < w1.heap.size := by omega); (try have : w.heap.size + 1 < w1.heap.size := by omega); (try have : w.heap.size + 1 + 1 < w1.heap.size := by omega); (try have : w.heap.size + 1 + 1 + 1 < w1.heap.size := by omega)
  have k : Bk w1 (w.heap.size) 26 [.bool b, .int .u64 x1, .int .u64 x0, .int .i64 s] := by (repeat (first | (with_reducible assumption) | ((with_reducible refine Bk.new_ ?_); (first | rfl | (simp only [World.size_alloc, World.size_setCell, World.size_drew, World.heap_drewN]; done))) | (with_reducible refine Bk.alloc ?_ _) | (with_reducible refine Bk.drew ?_) | (with_reducible refine Bk.drewN ?_ _) | ((with_reducible refine Bk.far ?_ ?_ _); rotate_left; focus (simp only []; omega)) | ((with_reducible refine Bk.below ?_ (by with_reducible assumption) ?_); rotate_left; focus (go_size; done))))
  have k_0 := k.cell 0 rfl
  have k_1 := k.cell 1 rfl
  have k_2 := k.cell 2 rfl
  have k_3 := k.cell 3 rfl
  have k_4 := k.frozen 0
  have k_5 := k.frozen 1
  have k_6 := k.frozen 2
  have k_7 := k.frozen 3
  have kl := k.lt
  clear hb1c hb1f k
  go_wp2_with fail
  go_ret2
  exact ⟨rfl, by (repeat' (first | (with_reducible exact Below.refl _ _) | (with_reducible assumption) | (with_reducible refine Below.drew ?_) | (with_reducible refine below_drewN ?_ _) | ((with_reducible refine Below.alloc ?_ ?_ _); rotate_left; focus (go_size; done)) | ((with_reducible refine Below.setCell ?_ ?_ _); rotate_left; focus (go_size; done)) | ((with_reducible refine Below.trans ?_ (Below.mono (by with_reducible assumption) ?_)); rotate_left; focus (go_size; done))))⟩
theorem rep_eq : ∀ n, Lib.repeatL [48] n = List.replicate n 48
  | 0 => rfl
  | n + 1 => by
    show [48] ++ Lib.repeatL [48] n = _
    rw [rep_eq n, List.replicate_succ]; rfl
theorem rep_any (n : Nat) (hn : n ≤ 100) (w : World) : Calls Tryd.prog 23 #[.string ⟨#[48]⟩, .int .i64 n] w fun e w' => e = .returned (.string ⟨(List.replicate n 48).toArray⟩) ∧ Below w.heap.size w w' :=
  (Tryd.strings_Repeat ⟨#[48]⟩ n w (by omega) (by show 1 * n ≤ _; omega)).mono fun e w' h => by
    obtain ⟨h1, h2⟩ := h
    have e1 := rep_eq n
    refine ⟨?_, h2⟩
    rw [← e1]
    exact h1
set_option maxRecDepth 100000 in
set_option maxHeartbeats 4000000 in
theorem print_ok (b : Bool) (c t L : Nat) (h : DForm b c t) (hL : IsNd c L) (w : World) : Calls Tryd.prog 8 #[.agg #[.bool b, .int .u64 (wd (c) 1), .int .u64 (wd (c) 0), .int .i64 t]] w fun e w' => e = .returned (.tuple #[.string ⟨(prS b c t L).toArray⟩, .int .i64 0]) ∧ Below w.heap.size w w' := by
  have hc : c < 2 ^ 128 := Nat.lt_trans h.1 B34_lt
  have hdf : dform b c t = true := (dform_iff b c t).2 ⟨t, rfl, h⟩
  have HF := Lib.hid (fun g W hg => formed_one b c t hc g W hg)
  have hL39 : L ≤ 34 := hL.le (by decide) h.1
  have HT := Lib.hid (fun W => text_any c L hc hL (by omega) W)
  unfold txt at HT
  have ht18 := h.2.1
  rw [hdf] at HF
  simp only [ferr, if_pos, if_neg, Bool.false_eq_true, if_true, if_false] at HF
  generalize wd c 0 = x0 at *
  generalize wd c 1 = x1 at *
  have hPL := padS_length c t L hL.1
  have hX := txl_length c L
  unfold prS
  have hP : padS c t L = List.replicate (t + 1 - L) 48 ++ txl c L := rfl
  obtain ⟨P, hPe⟩ : ∃ P, P = padS c t L := ⟨_, rfl⟩
  rw [← hPe] at hPL hP
  rw [← hPe]
  obtain ⟨X, hXe⟩ : ∃ X, X = txl c L := ⟨_, rfl⟩
  rw [← hXe] at HT hX hP
  clear hPe hXe hc hdf h hL
  subst hX
  have HPe := Lib.hid hP
  have hPl : P.length ≤ 60 ∧ t < P.length := by omega
  clear hP
  have HPL := Lib.hid hPL
  clear hPL
  go_enter Tryd.func8, Tryd.ntmps8
  go_wp2_with fail
  (with_reducible refine (HF.out _ _ ?hg).mono ?_)
  case hg => ((repeat (first | (with_reducible assumption) | ((with_reducible refine Bk.new_ ?_); (first | rfl | (simp only [World.size_alloc, World.size_setCell, World.size_drew, World.heap_drewN]; done))) | (with_reducible refine Bk.alloc ?_ _) | (with_reducible refine Bk.drew ?_) | (with_reducible refine Bk.drewN ?_ _) | ((with_reducible refine Bk.far ?_ ?_ _); rotate_left; focus (simp only []; omega)) | ((with_reducible refine Bk.below ?_ (by with_reducible assumption) ?_); rotate_left; focus (go_size; done)))); done)
  rintro _ w1 ⟨rfl, hb1⟩; have hb1s := hb1.size; (try simp only [World.size_alloc, World.size_setCell, World.size_drew, World.heap_drewN] at hb1s); obtain ⟨hb1c, hb1f⟩ := bcell hb1; (try have : w.heap.size < w1.heap.size := by omega); (try have : w.heap.size + 1 < w1.heap.size := by omega); (try have : w.heap.size + 1 + 1 < w1.heap.size := by omega); (try have : w.heap.size + 1 + 1 + 1 < w1.heap.size := by omega)
  have k : Bk w1 (w.heap.size) 26 [.bool b, .int .u64 x1, .int .u64 x0, .int .i64 (t : Int)] := by (repeat (first | (with_reducible assumption) | ((with_reducible refine Bk.new_ ?_); (first | rfl | (simp only [World.size_alloc, World.size_setCell, World.size_drew, World.heap_drewN]; done))) | (with_reducible refine Bk.alloc ?_ _) | (with_reducible refine Bk.drew ?_) | (with_reducible refine Bk.drewN ?_ _) | ((with_reducible refine Bk.far ?_ ?_ _); rotate_left; focus (simp only []; omega)) | ((with_reducible refine Bk.below ?_ (by with_reducible assumption) ?_); rotate_left; focus (go_size; done))))
  have k_0 := k.cell 0 rfl
  have k_1 := k.cell 1 rfl
  have k_2 := k.cell 2 rfl
  have k_3 := k.cell 3 rfl
  have k_4 := k.frozen 0
  have k_5 := k.frozen 1
  have k_6 := k.frozen 2
  have k_7 := k.frozen 3
  have kl := k.lt
  clear hb1c hb1f
  go_upto_if 19 with ((go_at_call 22; with_reducible refine (HT.out _).mono ?_); rintro _ w2 ⟨rfl, hb2⟩; have hb2s := hb2.size; (try simp only [World.size_alloc, World.size_setCell, World.size_drew, World.heap_drewN] at hb2s); obtain ⟨hb2c, hb2f⟩ := bcell hb2; (try have : w.heap.size < w2.heap.size := by omega); (try have : w.heap.size + 1 < w2.heap.size := by omega); (try have : w.heap.size + 1 + 1 < w2.heap.size := by omega); (try have : w.heap.size + 1 + 1 + 1 < w2.heap.size := by omega); (try have : w1.heap.size < w2.heap.size := by omega); (try have : w1.heap.size + 1 < w2.heap.size := by omega); (try have : w1.heap.size + 1 + 1 < w2.heap.size := by omega); (try have : w1.heap.size + 1 + 1 + 1 < w2.heap.size := by omega))
  have k2 : Bk w2 w.heap.size 26 [.bool b, .int .u64 x1, .int .u64 x0, .int .i64 (t : Int)] := by (repeat (first | (with_reducible assumption) | ((with_reducible refine Bk.new_ ?_); (first | rfl | (simp only [World.size_alloc, World.size_setCell, World.size_drew, World.heap_drewN]; done))) | (with_reducible refine Bk.alloc ?_ _) | (with_reducible refine Bk.drew ?_) | (with_reducible refine Bk.drewN ?_ _) | ((with_reducible refine Bk.far ?_ ?_ _); rotate_left; focus (simp only []; omega)) | ((with_reducible refine Bk.below ?_ (by with_reducible assumption) ?_); rotate_left; focus (go_size; done))))
  have mb : Below w.heap.size w w2 := by (repeat' (first | (with_reducible exact Below.refl _ _) | (with_reducible assumption) | (with_reducible refine Below.drew ?_) | (with_reducible refine below_drewN ?_ _) | ((with_reducible refine Below.alloc ?_ ?_ _); rotate_left; focus (go_size; done)) | ((with_reducible refine Below.setCell ?_ ?_ _); rotate_left; focus (go_size; done)) | ((with_reducible refine Below.trans ?_ (Below.mono (by with_reducible assumption) ?_)); rotate_left; focus (go_size; done))))
  have l2 := k2.lt
  have c3 := k2.cell 3 rfl
  clear hb1 hb1s hb2 hb2s hb2c hb2f
  go_cut [5] (fun s5 wx => s5 = .string ⟨P.toArray⟩ ∧ Bk wx w.heap.size 26 [.bool b, .int .u64 x1, .int .u64 x0, .int .i64 (t : Int)] ∧ Below w.heap.size w wx)
  case first =>
    by_cases hle : X.length ≤ t
    · have hle' : (X.length : Int) ≤ (t : Int) := by omega
      have hr := fun W => rep_any (t + 1 - X.length) (by omega) W
      have e : ((t + 1 - X.length : Nat) : Int) = (t : Int) + 1 - (X.length : Int) := by omega
      rw [e] at hr
      have HR := Lib.hid hr
      have hrl : (List.replicate (t + 1 - X.length) (48 : UInt8)).length = t + 1 - X.length := List.length_replicate
      obtain ⟨Y, hY⟩ : ∃ Y, Y = List.replicate (t + 1 - X.length) (48 : UInt8) := ⟨_, rfl⟩
      rw [← hY] at HR hrl HPe
      have hs1 : Y.length + X.length ≤ 9223372036854775807 := by omega
      have hs2 : (Y.length : Int) + (X.length : Int) ≤ 9223372036854775807 := by omega
      clear hr e hY hrl
      go_wp2_with ((go_at_call 23; with_reducible refine (HR.out _).mono ?_); rintro _ w3 ⟨rfl, hb3⟩; have hb3s := hb3.size; (try simp only [World.size_alloc, World.size_setCell, World.size_drew, World.heap_drewN] at hb3s); obtain ⟨hb3c, hb3f⟩ := bcell hb3; (try have : w.heap.size < w3.heap.size := by omega); (try have : w.heap.size + 1 < w3.heap.size := by omega); (try have : w.heap.size + 1 + 1 < w3.heap.size := by omega); (try have : w.heap.size + 1 + 1 + 1 < w3.heap.size := by omega))
      go_meet
      case rel => exact ⟨by rw [HPe.out, ← cat_mk], by (repeat (first | (with_reducible assumption) | ((with_reducible refine Bk.new_ ?_); (first | rfl | (simp only [World.size_alloc, World.size_setCell, World.size_drew, World.heap_drewN]; done))) | (with_reducible refine Bk.alloc ?_ _) | (with_reducible refine Bk.drew ?_) | (with_reducible refine Bk.drewN ?_ _) | ((with_reducible refine Bk.far ?_ ?_ _); rotate_left; focus (simp only []; omega)) | ((with_reducible refine Bk.below ?_ (by with_reducible assumption) ?_); rotate_left; focus (go_size; done)))), by (repeat' (first | (with_reducible exact Below.refl _ _) | (with_reducible assumption) | (with_reducible refine Below.drew ?_) | (with_reducible refine below_drewN ?_ _) | ((with_reducible refine Below.alloc ?_ ?_ _); rotate_left; focus (go_size; done)) | ((with_reducible refine Below.setCell ?_ ?_ _); rotate_left; focus (go_size; done)) | ((with_reducible refine Below.trans ?_ (Below.mono (by with_reducible assumption) ?_)); rotate_left; focus (go_size; done))))⟩
    · go_wp2_with fail
      go_meet
      case rel => exact ⟨by rw [HPe.out, show t + 1 - X.length = 0 by omega]; rfl, by (repeat (first | (with_reducible assumption) | ((with_reducible refine Bk.new_ ?_); (first | rfl | (simp only [World.size_alloc, World.size_setCell, World.size_drew, World.heap_drewN]; done))) | (with_reducible refine Bk.alloc ?_ _) | (with_reducible refine Bk.drew ?_) | (with_reducible refine Bk.drewN ?_ _) | ((with_reducible refine Bk.far ?_ ?_ _); rotate_left; focus (simp only []; omega)) | ((with_reducible refine Bk.below ?_ (by with_reducible assumption) ?_); rotate_left; focus (go_size; done)))), by (repeat' (first | (with_reducible exact Below.refl _ _) | (with_reducible assumption) | (with_reducible refine Below.drew ?_) | (with_reducible refine below_drewN ?_ _) | ((with_reducible refine Below.alloc ?_ ?_ _); rotate_left; focus (go_size; done)) | ((with_reducible refine Below.setCell ?_ ?_ _); rotate_left; focus (go_size; done)) | ((with_reducible refine Below.trans ?_ (Below.mono (by with_reducible assumption) ?_)); rotate_left; focus (go_size; done))))⟩
  case rest =>
    obtain ⟨rfl, k2, mb⟩ := hcut
    clear HPe HPL HT HF hL39
    have l2 := k2.lt
    have c3 := k2.cell 3 rfl
    have c0 := k2.cell 0 rfl
    have K2 := Lib.hid k2
    clear k2
    obtain ⟨w4, rfl⟩ : ∃ w4 : World, w4 = wc := ⟨_, rfl⟩
    go_upto_if 31 with fail
    go_cut [5] (fun s5 wx => s5 = .string ⟨(insS P t).toArray⟩ ∧ Bk wx w.heap.size 26 [.bool b, .int .u64 x1, .int .u64 x0, .int .i64 (t : Int)] ∧ Below w.heap.size w wx)
    case first =>
      by_cases h0 : 0 < t
      · have h0' : (0 : Int) < (t : Int) := by omega
        have i1 : (0 : Int) ≤ (P.length : Int) - (t : Int) := by omega
        have i2 : (P.length : Int) - (t : Int) ≤ (P.length : Int) := by omega
        have i3 : ((P.length : Int) - (t : Int)).toNat = P.length - t := by omega
        go_wp2_with fail
        go_region
        go_wp2_with fail
        go_meet
        case rel =>
          have k2 := K2.out
          refine ⟨?_, by (repeat (first | (with_reducible assumption) | ((with_reducible refine Bk.new_ ?_); (first | rfl | (simp only [World.size_alloc, World.size_setCell, World.size_drew, World.heap_drewN]; done))) | (with_reducible refine Bk.alloc ?_ _) | (with_reducible refine Bk.drew ?_) | (with_reducible refine Bk.drewN ?_ _) | ((with_reducible refine Bk.far ?_ ?_ _); rotate_left; focus (simp only []; omega)) | ((with_reducible refine Bk.below ?_ (by with_reducible assumption) ?_); rotate_left; focus (go_size; done)))), by (repeat' (first | (with_reducible exact Below.refl _ _) | (with_reducible assumption) | (with_reducible refine Below.drew ?_) | (with_reducible refine below_drewN ?_ _) | ((with_reducible refine Below.alloc ?_ ?_ _); rotate_left; focus (go_size; done)) | ((with_reducible refine Below.setCell ?_ ?_ _); rotate_left; focus (go_size; done)) | ((with_reducible refine Below.trans ?_ (Below.mono (by with_reducible assumption) ?_)); rotate_left; focus (go_size; done))))⟩
          unfold insS
          rw [if_pos h0, ← cat_mk, ← cat_mk, ← ext_upto, ← ext_from]
          try rfl
      · go_wp2_with fail
        go_meet
        case rel => exact ⟨by unfold insS; rw [if_neg h0], K2.out, mb⟩
    case rest =>
      obtain ⟨rfl, k2, mb⟩ := hcut
      have l2 := k2.lt
      have c0 := k2.cell 0 rfl
      clear k2 K2 c3
      obtain ⟨w5, rfl⟩ : ∃ w5 : World, w5 = wc := ⟨_, rfl⟩
      have hil : (insS P t).length ≤ 100 := by
        unfold insS
        split
        · simp only [List.length_append, List.length_take, List.length_drop, List.length_cons, List.length_nil]; omega
        · omega
      have hs3 : 1 + (insS P t).length ≤ 9223372036854775807 := by omega
      have hs4 : (1 : Int) + ((insS P t).length : Int) ≤ 9223372036854775807 := by omega
      obtain ⟨Y, hY⟩ : ∃ Y, Y = insS P t := ⟨_, rfl⟩
      rw [← hY] at hs3 hs4
      rw [← hY]
      have HY := Lib.hid hY
      clear hY hil
      cases b with
      | true =>
        go_wp2_with fail
        go_ret2
        exact ⟨congrArg (fun s => Ending.returned (.tuple #[.string s, .int .i64 0])) ((cat_mk [45] Y).trans (by rw [HY.out]; simp)), by (repeat' (first | (with_reducible exact Below.refl _ _) | (with_reducible assumption) | (with_reducible refine Below.drew ?_) | (with_reducible refine below_drewN ?_ _) | ((with_reducible refine Below.alloc ?_ ?_ _); rotate_left; focus (go_size; done)) | ((with_reducible refine Below.setCell ?_ ?_ _); rotate_left; focus (go_size; done)) | ((with_reducible refine Below.trans ?_ (Below.mono (by with_reducible assumption) ?_)); rotate_left; focus (go_size; done))))⟩
      | false =>
        go_wp2_with fail
        go_ret2
        exact ⟨congrArg (fun s => Ending.returned (.tuple #[.string s, .int .i64 0])) (by rw [HY.out]; try simp), by (repeat' (first | (with_reducible exact Below.refl _ _) | (with_reducible assumption) | (with_reducible refine Below.drew ?_) | (with_reducible refine below_drewN ?_ _) | ((with_reducible refine Below.alloc ?_ ?_ _); rotate_left; focus (go_size; done)) | ((with_reducible refine Below.setCell ?_ ?_ _); rotate_left; focus (go_size; done)) | ((with_reducible refine Below.trans ?_ (Below.mono (by with_reducible assumption) ?_)); rotate_left; focus (go_size; done))))⟩
end Go.Proofs.YtogpbcllbbpgbaaDoor

set_option linter.unusedSimpArgs false
set_option linter.unusedVariables false
namespace Go.Proofs.YtogpbcllbbpgbaaDoor
open Go.RowKit

theorem pad_step {c L k : Nat} {X : List UInt8} (h : X = List.replicate k 48 ++ txl c L) : (⟨#[48]⟩ : ByteArray) ++ ⟨X.toArray⟩ = ⟨(List.replicate (k + 1) 48 ++ txl c L).toArray⟩ := by
  rw [List.replicate_succ, List.cons_append, ← h]
  exact cat_mk [48] X
set_option maxRecDepth 100000 in
set_option maxHeartbeats 4000000 in
theorem rtold_any (b : Bool) (c t L : Nat) (h : DForm b c t) (hL : IsNd c L) (w : World) : Calls Tryd.prog 20 #[.agg #[.bool b, .int .u64 (wd (c) 1), .int .u64 (wd (c) 0), .int .i64 t]] w fun e w' => e = .returned (.string ⟨(prS b c t L).toArray⟩) ∧ Below w.heap.size w w' := by
  have hc : c < 2 ^ 128 := Nat.lt_trans h.1 B34_lt
  have HO := Lib.hid (fun W => of_any c hc W)
  have hsm : Small c := (lt_128_tiny hc).small
  have HT := Lib.hid (fun v W (hv : Dg W v c) => tx_any c L hL v W hv hsm)
  have hL34 : L ≤ 34 := hL.le (by decide) h.1
  unfold txt at HT
  have ht18 := h.2.1
  generalize wd c 0 = x0 at *
  generalize wd c 1 = x1 at *
  have hPL := padS_length c t L hL.1
  have hX := txl_length c L
  unfold prS
  have hP : padS c t L = List.replicate (t + 1 - L) 48 ++ txl c L := rfl
  obtain ⟨P, hPe⟩ : ∃ P, P = padS c t L := ⟨_, rfl⟩
  rw [← hPe] at hPL hP
  rw [← hPe]
  have HX := Lib.hid hX
  have HPe := Lib.hid hP
  have hPl : P.length ≤ 60 ∧ t < P.length := by omega
  have hL1 := hL.1
  clear hP hPe hX hc h hL hPL hsm
  go_enter Tryd.func20, Tryd.ntmps20
  go_wp2_with fail
  refine (HO.out _).mono ?_
  rintro _ w1 ⟨v1, rfl, d1, hb1⟩; have hb1s := hb1.size; (try simp only [World.size_alloc, World.size_setCell, World.size_drew, World.heap_drewN] at hb1s); obtain ⟨hb1c, hb1f⟩ := bcell hb1; (try have : w.heap.size < w1.heap.size := by omega); (try have : w.heap.size + 1 < w1.heap.size := by omega); (try have : w.heap.size + 1 + 1 < w1.heap.size := by omega); (try have : w.heap.size + 1 + 1 + 1 < w1.heap.size := by omega); have Hd1 := Lib.hid d1; clear d1
  go_wp2_with fail
  refine (HT.out _ _ Hd1.out).mono ?_
  rintro _ w2 ⟨rfl, hb2⟩; have hb2s := hb2.size; (try simp only [World.size_alloc, World.size_setCell, World.size_drew, World.heap_drewN] at hb2s); obtain ⟨hb2c, hb2f⟩ := bcell hb2; (try have : w.heap.size < w2.heap.size := by omega); (try have : w.heap.size + 1 < w2.heap.size := by omega); (try have : w.heap.size + 1 + 1 < w2.heap.size := by omega); (try have : w.heap.size + 1 + 1 + 1 < w2.heap.size := by omega)
  have k2 : Bk w2 w.heap.size 26 [.bool b, .int .u64 x1, .int .u64 x0, .int .i64 (t : Int)] := by (repeat (first | (with_reducible assumption) | ((with_reducible refine Bk.new_ ?_); (first | rfl | (simp only [World.size_alloc, World.size_setCell, World.size_drew, World.heap_drewN]; done))) | (with_reducible refine Bk.alloc ?_ _) | (with_reducible refine Bk.drew ?_) | (with_reducible refine Bk.drewN ?_ _) | ((with_reducible refine Bk.far ?_ ?_ _); rotate_left; focus (simp only []; omega)) | ((with_reducible refine Bk.below ?_ (by with_reducible assumption) ?_); rotate_left; focus (go_size; done))))
  have mb : Below w.heap.size w w2 := by (repeat' (first | (with_reducible exact Below.refl _ _) | (with_reducible assumption) | (with_reducible refine Below.drew ?_) | (with_reducible refine below_drewN ?_ _) | ((with_reducible refine Below.alloc ?_ ?_ _); rotate_left; focus (go_size; done)) | ((with_reducible refine Below.setCell ?_ ?_ _); rotate_left; focus (go_size; done)) | ((with_reducible refine Below.trans ?_ (Below.mono (by with_reducible assumption) ?_)); rotate_left; focus (go_size; done))))
  have K2 := Lib.hid k2
  have l2 := k2.lt
  have c3 := k2.cell 3 rfl
  clear hb1 hb1s hb2 hb2s hb2c hb2f hb1c hb1f Hd1 k2 HO HT
  go_wp2_with fail
  go_loopg [3] (t + 1 - L) (fun k s3 wr => ∃ (j : Nat) (X : List UInt8), k + j = t + 1 - L ∧ s3 = .string ⟨X.toArray⟩ ∧ Hid (X = List.replicate j 48 ++ txl c L) ∧ X.length = j + L ∧ wr = w2)
  case atStart => exact ⟨0, txl c L, by omega, rfl, Lib.hid rfl, by rw [HX.out]; omega, rfl⟩
  case round =>
    obtain ⟨j, X, hk, rfl, HXE, hxl, rfl⟩ := hrel
    have HK := Lib.hid hk
    clear hk
    by_cases hle : X.length ≤ t
    · have hle' : (X.length : Int) ≤ (t : Int) := by omega
      have hs1 : 1 + X.length ≤ 9223372036854775807 := by omega
      have hs2 : (1 : Int) + (X.length : Int) ≤ 9223372036854775807 := by omega
      have HXL := Lib.hid hxl
      clear hxl
      go_wp2_with fail
      go_roundg (gk - 1)
      case measure => have := HK.out; have := HXL.out; omega
      case rel => exact ⟨j + 1, List.replicate (j + 1) 48 ++ txl c L, by have := HK.out; have := HXL.out; omega, congrArg Value.string (pad_step HXE.out), Lib.hid rfl, by rw [List.length_append, List.length_replicate, HX.out], rfl⟩
    · have hle' : ¬ (X.length : Int) ≤ (t : Int) := by omega
      have hj : j = t + 1 - L := by have := HK.out; omega
      have hXP : X = P := by rw [HXE.out, HPe.out, hj]
      subst hXP
      have k2 := K2.out
      have c0 := k2.cell 0 rfl
      clear HXE HPe HK hxl hj k2
      go_upto_if 17 with fail
      go_cut [3] (fun s5 wx => s5 = .string ⟨(insS X t).toArray⟩ ∧ Bk wx w.heap.size 26 [.bool b, .int .u64 x1, .int .u64 x0, .int .i64 (t : Int)] ∧ Below w.heap.size w wx)
      case first =>
        by_cases h0 : 0 < t
        · have h0' : (0 : Int) < (t : Int) := by omega
          have i1 : (0 : Int) ≤ (X.length : Int) - (t : Int) := by omega
          have i2 : (X.length : Int) - (t : Int) ≤ (X.length : Int) := by omega
          have i3 : ((X.length : Int) - (t : Int)).toNat = X.length - t := by omega
          go_wp2_with fail
          go_region
          go_wp2_with fail
          go_meet
          case rel =>
            have k2 := K2.out
            refine ⟨?_, by (repeat (first | (with_reducible assumption) | ((with_reducible refine Bk.new_ ?_); (first | rfl | (simp only [World.size_alloc, World.size_setCell, World.size_drew, World.heap_drewN]; done))) | (with_reducible refine Bk.alloc ?_ _) | (with_reducible refine Bk.drew ?_) | (with_reducible refine Bk.drewN ?_ _) | ((with_reducible refine Bk.far ?_ ?_ _); rotate_left; focus (simp only []; omega)) | ((with_reducible refine Bk.below ?_ (by with_reducible assumption) ?_); rotate_left; focus (go_size; done)))), by (repeat' (first | (with_reducible exact Below.refl _ _) | (with_reducible assumption) | (with_reducible refine Below.drew ?_) | (with_reducible refine below_drewN ?_ _) | ((with_reducible refine Below.alloc ?_ ?_ _); rotate_left; focus (go_size; done)) | ((with_reducible refine Below.setCell ?_ ?_ _); rotate_left; focus (go_size; done)) | ((with_reducible refine Below.trans ?_ (Below.mono (by with_reducible assumption) ?_)); rotate_left; focus (go_size; done))))⟩
            unfold insS
            rw [if_pos h0, ← cat_mk, ← cat_mk, ← ext_upto, ← ext_from]
            try rfl
        · go_wp2_with fail
          go_meet
          case rel => exact ⟨by unfold insS; rw [if_neg h0], K2.out, mb⟩
      case rest =>
        obtain ⟨rfl, k2, mb⟩ := hcut
        have l2 := k2.lt
        have c0 := k2.cell 0 rfl
        clear k2 K2 c3
        obtain ⟨w5, rfl⟩ : ∃ w5 : World, w5 = wc := ⟨_, rfl⟩
        have hil : (insS X t).length ≤ 100 := by
          unfold insS
          split
          · simp only [List.length_append, List.length_take, List.length_drop, List.length_cons, List.length_nil]; omega
          · omega
        have hs3 : 1 + (insS X t).length ≤ 9223372036854775807 := by omega
        have hs4 : (1 : Int) + ((insS X t).length : Int) ≤ 9223372036854775807 := by omega
        obtain ⟨Y, hY⟩ : ∃ Y, Y = insS X t := ⟨_, rfl⟩
        rw [← hY] at hs3 hs4
        rw [← hY]
        have HY := Lib.hid hY
        clear hY hil
        cases b with
        | true =>
          go_wp2_with fail
          go_ret
          exact ⟨congrArg (fun s => Ending.returned (.string s)) ((cat_mk [45] Y).trans (by rw [HY.out]; simp)), by (repeat' (first | (with_reducible exact Below.refl _ _) | (with_reducible assumption) | (with_reducible refine Below.drew ?_) | (with_reducible refine below_drewN ?_ _) | ((with_reducible refine Below.alloc ?_ ?_ _); rotate_left; focus (go_size; done)) | ((with_reducible refine Below.setCell ?_ ?_ _); rotate_left; focus (go_size; done)) | ((with_reducible refine Below.trans ?_ (Below.mono (by with_reducible assumption) ?_)); rotate_left; focus (go_size; done))))⟩
        | false =>
          go_wp2_with fail
          go_ret
          exact ⟨congrArg (fun s => Ending.returned (.string s)) (by rw [HY.out]; try simp), by (repeat' (first | (with_reducible exact Below.refl _ _) | (with_reducible assumption) | (with_reducible refine Below.drew ?_) | (with_reducible refine below_drewN ?_ _) | ((with_reducible refine Below.alloc ?_ ?_ _); rotate_left; focus (go_size; done)) | ((with_reducible refine Below.setCell ?_ ?_ _); rotate_left; focus (go_size; done)) | ((with_reducible refine Below.trans ?_ (Below.mono (by with_reducible assumption) ?_)); rotate_left; focus (go_size; done))))⟩
set_option maxHeartbeats 2000000 in
theorem docprint_bad (b : Bool) (c : Nat) (s : Int) (hc : c < 2 ^ 128) (h : dform b c s = false) (w : World) : Calls Tryd.prog 7 #[.agg #[.bool b, .int .u64 (wd (c) 1), .int .u64 (wd (c) 0), .int .i64 s]] w fun e w' => e = .returned (.tuple #[.string ⟨#[]⟩, .int .i64 2]) ∧ Below w.heap.size w w' := by
  have HF := Lib.hid (fun W => rform_any b c s hc W)
  rw [h] at HF
  generalize wd c 0 = x0 at *
  generalize wd c 1 = x1 at *
  clear hc h
  go_enter Tryd.func7, Tryd.ntmps7
  go_wp2_with fail
  refine (HF.out _).mono ?_
  rintro _ w1 ⟨rfl, hb1⟩; have hb1s := hb1.size; (try simp only [World.size_alloc, World.size_setCell, World.size_drew, World.heap_drewN] at hb1s); obtain ⟨hb1c, hb1f⟩ := bcell hb1; (try have : w.heap.size < w1.heap.size := by omega); (try have : w.heap.size + 1 < w1.heap.size := by omega); (try have : w.heap.size + 1 + 1 < w1.heap.size := by omega); (try have : w.heap.size + 1 + 1 + 1 < w1.heap.size := by omega)
  go_wp2_with fail
  go_ret2
  exact ⟨rfl, by (repeat' (first | (with_reducible exact Below.refl _ _) | (with_reducible assumption) | (with_reducible refine Below.drew ?_) | (with_reducible refine below_drewN ?_ _) | ((with_reducible refine Below.alloc ?_ ?_ _); rotate_left; focus (go_size; done)) | ((with_reducible refine Below.setCell ?_ ?_ _); rotate_left; focus (go_size; done)) | ((with_reducible refine Below.trans ?_ (Below.mono (by with_reducible assumption) ?_)); rotate_left; focus (go_size; done))))⟩
set_option maxHeartbeats 2000000 in
theorem docprint_ok (b : Bool) (c t L : Nat) (h : DForm b c t) (hL : IsNd c L) (w : World) : Calls Tryd.prog 7 #[.agg #[.bool b, .int .u64 (wd (c) 1), .int .u64 (wd (c) 0), .int .i64 t]] w fun e w' => e = .returned (.tuple #[.string ⟨(prS b c t L).toArray⟩, .int .i64 0]) ∧ Below w.heap.size w w' := by
  have hc : c < 2 ^ 128 := Nat.lt_trans h.1 B34_lt
  have HF := Lib.hid (fun W => rform_any b c t hc W)
  have HT := Lib.hid (fun W => rtold_any b c t L h hL W)
  rw [(dform_iff b c t).2 ⟨t, rfl, h⟩] at HF
  generalize wd c 0 = x0 at *
  generalize wd c 1 = x1 at *
  obtain ⟨Y, hY⟩ : ∃ Y, Y = prS b c t L := ⟨_, rfl⟩
  rw [← hY] at HT
  rw [← hY]
  clear hc h hL hY
  go_enter Tryd.func7, Tryd.ntmps7
  go_wp2_with fail
  refine (HF.out _).mono ?_
  rintro _ w1 ⟨rfl, hb1⟩; have hb1s := hb1.size; (try simp only [World.size_alloc, World.size_setCell, World.size_drew, World.heap_drewN] at hb1s); obtain ⟨hb1c, hb1f⟩ := bcell hb1; (try have : w.heap.size < w1.heap.size := by omega); (try have : w.heap.size + 1 < w1.heap.size := by omega); (try have : w.heap.size + 1 + 1 < w1.heap.size := by omega); (try have : w.heap.size + 1 + 1 + 1 < w1.heap.size := by omega)
  have k : Bk w1 (w.heap.size) 26 [.bool b, .int .u64 x1, .int .u64 x0, .int .i64 (t : Int)] := by (repeat (first | (with_reducible assumption) | ((with_reducible refine Bk.new_ ?_); (first | rfl | (simp only [World.size_alloc, World.size_setCell, World.size_drew, World.heap_drewN]; done))) | (with_reducible refine Bk.alloc ?_ _) | (with_reducible refine Bk.drew ?_) | (with_reducible refine Bk.drewN ?_ _) | ((with_reducible refine Bk.far ?_ ?_ _); rotate_left; focus (simp only []; omega)) | ((with_reducible refine Bk.below ?_ (by with_reducible assumption) ?_); rotate_left; focus (go_size; done))))
  have k_0 := k.cell 0 rfl
  have k_1 := k.cell 1 rfl
  have k_2 := k.cell 2 rfl
  have k_3 := k.cell 3 rfl
  have k_4 := k.frozen 0
  have k_5 := k.frozen 1
  have k_6 := k.frozen 2
  have k_7 := k.frozen 3
  have kl := k.lt
  clear hb1c hb1f
  go_wp2_with fail
  refine (HT.out _).mono ?_
  rintro _ w2 ⟨rfl, hb2⟩; have hb2s := hb2.size; (try simp only [World.size_alloc, World.size_setCell, World.size_drew, World.heap_drewN] at hb2s); obtain ⟨hb2c, hb2f⟩ := bcell hb2; (try have : w.heap.size < w2.heap.size := by omega); (try have : w.heap.size + 1 < w2.heap.size := by omega); (try have : w.heap.size + 1 + 1 < w2.heap.size := by omega); (try have : w.heap.size + 1 + 1 + 1 < w2.heap.size := by omega)
  go_wp2_with fail
  go_ret2
  exact ⟨rfl, by (repeat' (first | (with_reducible exact Below.refl _ _) | (with_reducible assumption) | (with_reducible refine Below.drew ?_) | (with_reducible refine below_drewN ?_ _) | ((with_reducible refine Below.alloc ?_ ?_ _); rotate_left; focus (go_size; done)) | ((with_reducible refine Below.setCell ?_ ?_ _); rotate_left; focus (go_size; done)) | ((with_reducible refine Below.trans ?_ (Below.mono (by with_reducible assumption) ?_)); rotate_left; focus (go_size; done))))⟩
end Go.Proofs.YtogpbcllbbpgbaaDoor

set_option linter.unusedSimpArgs false
set_option linter.unusedVariables false
namespace Go.Proofs.YtogpbcllbbpgbaaDoor
open Go.RowKit
open Go.ChangeShapes Go.WideShapes Go.ChangeAt
open Go.ChangeMaps (open_string shut_string)
set_option linter.unusedVariables false
theorem own : ownKnob Tryd.prog.godebug = none := by kernel_rfl
theorem laidOut : laidOutB Tryd.prog = true := by kernel_rfl

set_option maxRecDepth 100000 in
set_option maxHeartbeats 8000000 in
theorem texts_walk (s T : ByteArray) (b : Bool) (x1 x0 sc : Int) (r0 : Bool) (r1 r2 r3 e1 e2 : Int)
    (H1 : ∀ W, Calls Tryd.prog 5 #[.string s] W fun e w' => e = .returned (.tuple #[.agg #[.bool r0, .int .u64 r1, .int .u64 r2, .int .i64 r3], .int .i64 e1]) ∧ Below W.heap.size W w')
    (H2 : ∀ W, Calls Tryd.prog 6 #[.string s] W fun e w' => e = .returned (.tuple #[.agg #[.bool r0, .int .u64 r1, .int .u64 r2, .int .i64 r3], .int .i64 e1]) ∧ Below W.heap.size W w')
    (H3 : ∀ W, Calls Tryd.prog 7 #[.agg #[.bool b, .int .u64 x1, .int .u64 x0, .int .i64 sc]] W fun e w' => e = .returned (.tuple #[.string T, .int .i64 e2]) ∧ Below W.heap.size W w')
    (H4 : ∀ W, Calls Tryd.prog 8 #[.agg #[.bool b, .int .u64 x1, .int .u64 x0, .int .i64 sc]] W fun e w' => e = .returned (.tuple #[.string T, .int .i64 e2]) ∧ Below W.heap.size W w')
    (H5 : e2 = 0 → ∀ W, Calls Tryd.prog 6 #[.string T] W fun e w' => e = .returned (.tuple #[.agg #[.bool b, .int .u64 x1, .int .u64 x0, .int .i64 sc], .int .i64 0]) ∧ Below W.heap.size W w')
    (w : World) : Calls Tryd.prog 3 #[.string s, .agg #[.bool b, .int .u64 x1, .int .u64 x0, .int .i64 sc]] w fun e w' => e = .returned (.bool true) ∧ Below w.heap.size w w' := by
  have K1 := Lib.hid H1
  have K2 := Lib.hid H2
  have K3 := Lib.hid H3
  have K4 := Lib.hid H4
  have K5 := Lib.hid H5
  clear H1 H2 H3 H4 H5
  have q1 : ∀ W, (binOp .neq 26 (.agg #[.bool r0, .int .u64 r1, .int .u64 r2, .int .i64 r3]) (.agg #[.bool r0, .int .u64 r1, .int .u64 r2, .int .i64 r3])).run Tryd.prog W = .ok (.bool false) W := fun W => by rw [neq_dec]; simp
  have q2 : ∀ W, (binOp .eql 26 (.agg #[.bool b, .int .u64 x1, .int .u64 x0, .int .i64 sc]) (.agg #[.bool b, .int .u64 x1, .int .u64 x0, .int .i64 sc])).run Tryd.prog W = .ok (.bool true) W := fun W => by rw [eq_dec]; simp
  by_cases he : e2 = 0
  · subst he
    have K6 := Lib.hid (K5.out rfl)
    clear K5
    go_enter Tryd.func3, Tryd.ntmps3
    go_wp2_with (first | ((go_at_call 4; with_reducible refine (known_any _).mono ?_); rintro _ w1 ⟨rfl, hb1⟩; have hb1s := hb1.size; (try simp only [World.size_alloc, World.size_setCell, World.size_drew, World.heap_drewN] at hb1s); obtain ⟨hb1c, hb1f⟩ := bcell hb1; (try have : w.heap.size < w1.heap.size := by omega); (try have : w.heap.size + 1 < w1.heap.size := by omega); (try have : w.heap.size + 1 + 1 < w1.heap.size := by omega); (try have : w.heap.size + 1 + 1 + 1 < w1.heap.size := by omega)) | ((go_at_call 5; with_reducible refine (K1.out _).mono ?_); rintro _ w2 ⟨rfl, hb2⟩; have hb2s := hb2.size; (try simp only [World.size_alloc, World.size_setCell, World.size_drew, World.heap_drewN] at hb2s); obtain ⟨hb2c, hb2f⟩ := bcell hb2; (try have : w.heap.size < w2.heap.size := by omega); (try have : w.heap.size + 1 < w2.heap.size := by omega); (try have : w.heap.size + 1 + 1 < w2.heap.size := by omega); (try have : w.heap.size + 1 + 1 + 1 < w2.heap.size := by omega); (try have : w1.heap.size < w2.heap.size := by omega); (try have : w1.heap.size + 1 < w2.heap.size := by omega); (try have : w1.heap.size + 1 + 1 < w2.heap.size := by omega); (try have : w1.heap.size + 1 + 1 + 1 < w2.heap.size := by omega)))
    have kd : Bk (w2.alloc (.cells #[.bool r0, .int .u64 r1, .int .u64 r2, .int .i64 r3] 26)) w.heap.size 26 [.bool b, .int .u64 x1, .int .u64 x0, .int .i64 sc] := by (repeat (first | (with_reducible assumption) | ((with_reducible refine Bk.new_ ?_); (first | rfl | (simp only [World.size_alloc, World.size_setCell, World.size_drew, World.heap_drewN]; done))) | (with_reducible refine Bk.alloc ?_ _) | (with_reducible refine Bk.drew ?_) | (with_reducible refine Bk.drewN ?_ _) | ((with_reducible refine Bk.far ?_ ?_ _); rotate_left; focus (simp only []; omega)) | ((with_reducible refine Bk.below ?_ (by with_reducible assumption) ?_); rotate_left; focus (go_size; done))))
    have k5 : Bk (w2.alloc (.cells #[.bool r0, .int .u64 r1, .int .u64 r2, .int .i64 r3] 26)) w2.heap.size 26 [.bool r0, .int .u64 r1, .int .u64 r2, .int .i64 r3] := by (repeat (first | (with_reducible assumption) | ((with_reducible refine Bk.new_ ?_); (first | rfl | (simp only [World.size_alloc, World.size_setCell, World.size_drew, World.heap_drewN]; done))) | (with_reducible refine Bk.alloc ?_ _) | (with_reducible refine Bk.drew ?_) | (with_reducible refine Bk.drewN ?_ _) | ((with_reducible refine Bk.far ?_ ?_ _); rotate_left; focus (simp only []; omega)) | ((with_reducible refine Bk.below ?_ (by with_reducible assumption) ?_); rotate_left; focus (go_size; done))))
    have mb : Below w.heap.size w (w2.alloc (.cells #[.bool r0, .int .u64 r1, .int .u64 r2, .int .i64 r3] 26)) := by (repeat' (first | (with_reducible exact Below.refl _ _) | (with_reducible assumption) | (with_reducible refine Below.drew ?_) | (with_reducible refine below_drewN ?_ _) | ((with_reducible refine Below.alloc ?_ ?_ _); rotate_left; focus (go_size; done)) | ((with_reducible refine Below.setCell ?_ ?_ _); rotate_left; focus (go_size; done)) | ((with_reducible refine Below.trans ?_ (Below.mono (by with_reducible assumption) ?_)); rotate_left; focus (go_size; done))))
    obtain ⟨B5, hB5⟩ : ∃ B5, B5 = w2.heap.size := ⟨_, rfl⟩
    rw [← hB5] at k5
    rw [← hB5]
    generalize w2.alloc (.cells #[.bool r0, .int .u64 r1, .int .u64 r2, .int .i64 r3] 26) = wa at *
    clear hb1 hb1s hb1c hb1f hb2 hb2s hb2c hb2f hB5
    have ld := kd.lt
    have l5 := k5.lt
    have hle := mb.size
    refine (K2.out _).mono ?_
    rintro _ w3 ⟨rfl, hb3⟩
    have hs3 := hb3.size
    have kd3 := kd.below hb3 ld
    have k53 := k5.below hb3 l5
    have mb3 := mb.trans (hb3.mono (by omega))
    clear kd k5 mb hb3 hs3 hle ld l5
    have d0 := kd3.cell 0 rfl
    have d1 := kd3.cell 1 rfl
    have d2 := kd3.cell 2 rfl
    have d3 := kd3.cell 3 rfl
    have ld := kd3.lt
    have l5 := k53.lt
    have kd4 := kd3.alloc (.cells #[.bool r0, .int .u64 r1, .int .u64 r2, .int .i64 r3] 26)
    have k54 := k53.alloc (.cells #[.bool r0, .int .u64 r1, .int .u64 r2, .int .i64 r3] 26)
    have k74 := Bk.new w3 26 [.bool r0, .int .u64 r1, .int .u64 r2, .int .i64 r3]
    have mb4 := mb3.alloc (by have := mb3.size; omega) (.cells #[.bool r0, .int .u64 r1, .int .u64 r2, .int .i64 r3] 26)
    have HKD := Lib.hid kd4
    have HK5 := Lib.hid k54
    have HK7 := Lib.hid k74
    have HMB := Lib.hid mb4
    clear kd3 k53 kd4 k54 k74 mb3 mb4
    go_wp2_with fail
    obtain ⟨B7, hB7⟩ : ∃ B7, B7 = w3.heap.size := ⟨_, rfl⟩
    rw [← hB7] at HK7
    rw [← hB7]
    clear hB7 d0 d1 d2 d3 ld l5
    refine (K3.out _).mono ?_
    rintro _ w4 ⟨rfl, hb4⟩
    have kd := HKD.out.below hb4 HKD.out.lt
    have k5 := HK5.out.below hb4 HK5.out.lt
    have k7 := HK7.out.below hb4 HK7.out.lt
    have mb := HMB.out.trans (hb4.mono HMB.out.size)
    clear hb4 HKD HK5 HK7 HMB
    have d0 := kd.cell 0 rfl
    have d1 := kd.cell 1 rfl
    have d2 := kd.cell 2 rfl
    have d3 := kd.cell 3 rfl
    have HKD := Lib.hid kd
    have HK5 := Lib.hid k5
    have HK7 := Lib.hid k7
    have HMB := Lib.hid mb
    clear kd k5 k7 mb
    go_wp2_with fail
    refine (K4.out _).mono ?_
    clear d0 d1 d2 d3
    rintro _ w5 ⟨rfl, hb5⟩
    have kd := HKD.out.below hb5 HKD.out.lt
    have k5 := HK5.out.below hb5 HK5.out.lt
    have k7 := HK7.out.below hb5 HK7.out.lt
    have mb := HMB.out.trans (hb5.mono HMB.out.size)
    clear hb5 HKD HK5 HK7 HMB
    have d0 := kd.cell 0 rfl
    have d1 := kd.cell 1 rfl
    have d2 := kd.cell 2 rfl
    have d3 := kd.cell 3 rfl
    have p0 := k5.cell 0 rfl
    have p1 := k5.cell 1 rfl
    have p2 := k5.cell 2 rfl
    have p3 := k5.cell 3 rfl
    have q70 := k7.cell 0 rfl
    have q71 := k7.cell 1 rfl
    have q72 := k7.cell 2 rfl
    have q73 := k7.cell 3 rfl
    have HKD := Lib.hid kd
    have HMB := Lib.hid mb
    clear kd k5 k7 mb
    go_wp2_with fail
    refine (K6.out _).mono ?_
    clear d0 d1 d2 d3 p0 p1 p2 p3 q70 q71 q72 q73
    rintro _ w6 ⟨rfl, hb6⟩
    have kd := HKD.out.below hb6 HKD.out.lt
    have mb := HMB.out.trans (hb6.mono HMB.out.size)
    clear hb6 HKD HMB
    have d0 := kd.cell 0 rfl
    have d1 := kd.cell 1 rfl
    have d2 := kd.cell 2 rfl
    have d3 := kd.cell 3 rfl
    have ld := kd.lt
    have hle := mb.size
    clear kd
    go_wp2_with fail
    go_ret
    exact ⟨rfl, by (repeat' (first | (with_reducible exact Below.refl _ _) | (with_reducible assumption) | (with_reducible refine Below.drew ?_) | (with_reducible refine below_drewN ?_ _) | ((with_reducible refine Below.alloc ?_ ?_ _); rotate_left; focus (go_size; done)) | ((with_reducible refine Below.setCell ?_ ?_ _); rotate_left; focus (go_size; done)) | ((with_reducible refine Below.trans ?_ (Below.mono (by with_reducible assumption) ?_)); rotate_left; focus (go_size; done))))⟩
  · have he1 : (e2 == 0) = false := by rw [beq_eq_false_iff_ne]; exact he
    have he2 : (e2 != 0) = true := by rw [bne_iff_ne]; exact he
    clear K5 he
    go_enter Tryd.func3, Tryd.ntmps3
    go_wp2_with (first | ((go_at_call 4; with_reducible refine (known_any _).mono ?_); rintro _ w1 ⟨rfl, hb1⟩; have hb1s := hb1.size; (try simp only [World.size_alloc, World.size_setCell, World.size_drew, World.heap_drewN] at hb1s); obtain ⟨hb1c, hb1f⟩ := bcell hb1; (try have : w.heap.size < w1.heap.size := by omega); (try have : w.heap.size + 1 < w1.heap.size := by omega); (try have : w.heap.size + 1 + 1 < w1.heap.size := by omega); (try have : w.heap.size + 1 + 1 + 1 < w1.heap.size := by omega)) | ((go_at_call 5; with_reducible refine (K1.out _).mono ?_); rintro _ w2 ⟨rfl, hb2⟩; have hb2s := hb2.size; (try simp only [World.size_alloc, World.size_setCell, World.size_drew, World.heap_drewN] at hb2s); obtain ⟨hb2c, hb2f⟩ := bcell hb2; (try have : w.heap.size < w2.heap.size := by omega); (try have : w.heap.size + 1 < w2.heap.size := by omega); (try have : w.heap.size + 1 + 1 < w2.heap.size := by omega); (try have : w.heap.size + 1 + 1 + 1 < w2.heap.size := by omega); (try have : w1.heap.size < w2.heap.size := by omega); (try have : w1.heap.size + 1 < w2.heap.size := by omega); (try have : w1.heap.size + 1 + 1 < w2.heap.size := by omega); (try have : w1.heap.size + 1 + 1 + 1 < w2.heap.size := by omega)))
    have kd : Bk (w2.alloc (.cells #[.bool r0, .int .u64 r1, .int .u64 r2, .int .i64 r3] 26)) w.heap.size 26 [.bool b, .int .u64 x1, .int .u64 x0, .int .i64 sc] := by (repeat (first | (with_reducible assumption) | ((with_reducible refine Bk.new_ ?_); (first | rfl | (simp only [World.size_alloc, World.size_setCell, World.size_drew, World.heap_drewN]; done))) | (with_reducible refine Bk.alloc ?_ _) | (with_reducible refine Bk.drew ?_) | (with_reducible refine Bk.drewN ?_ _) | ((with_reducible refine Bk.far ?_ ?_ _); rotate_left; focus (simp only []; omega)) | ((with_reducible refine Bk.below ?_ (by with_reducible assumption) ?_); rotate_left; focus (go_size; done))))
    have k5 : Bk (w2.alloc (.cells #[.bool r0, .int .u64 r1, .int .u64 r2, .int .i64 r3] 26)) w2.heap.size 26 [.bool r0, .int .u64 r1, .int .u64 r2, .int .i64 r3] := by (repeat (first | (with_reducible assumption) | ((with_reducible refine Bk.new_ ?_); (first | rfl | (simp only [World.size_alloc, World.size_setCell, World.size_drew, World.heap_drewN]; done))) | (with_reducible refine Bk.alloc ?_ _) | (with_reducible refine Bk.drew ?_) | (with_reducible refine Bk.drewN ?_ _) | ((with_reducible refine Bk.far ?_ ?_ _); rotate_left; focus (simp only []; omega)) | ((with_reducible refine Bk.below ?_ (by with_reducible assumption) ?_); rotate_left; focus (go_size; done))))
    have mb : Below w.heap.size w (w2.alloc (.cells #[.bool r0, .int .u64 r1, .int .u64 r2, .int .i64 r3] 26)) := by (repeat' (first | (with_reducible exact Below.refl _ _) | (with_reducible assumption) | (with_reducible refine Below.drew ?_) | (with_reducible refine below_drewN ?_ _) | ((with_reducible refine Below.alloc ?_ ?_ _); rotate_left; focus (go_size; done)) | ((with_reducible refine Below.setCell ?_ ?_ _); rotate_left; focus (go_size; done)) | ((with_reducible refine Below.trans ?_ (Below.mono (by with_reducible assumption) ?_)); rotate_left; focus (go_size; done))))
    obtain ⟨B5, hB5⟩ : ∃ B5, B5 = w2.heap.size := ⟨_, rfl⟩
    rw [← hB5] at k5
    rw [← hB5]
    generalize w2.alloc (.cells #[.bool r0, .int .u64 r1, .int .u64 r2, .int .i64 r3] 26) = wa at *
    clear hb1 hb1s hb1c hb1f hb2 hb2s hb2c hb2f hB5
    have ld := kd.lt
    have l5 := k5.lt
    have hle := mb.size
    refine (K2.out _).mono ?_
    rintro _ w3 ⟨rfl, hb3⟩
    have hs3 := hb3.size
    have kd3 := kd.below hb3 ld
    have k53 := k5.below hb3 l5
    have mb3 := mb.trans (hb3.mono (by omega))
    clear kd k5 mb hb3 hs3 hle ld l5
    have d0 := kd3.cell 0 rfl
    have d1 := kd3.cell 1 rfl
    have d2 := kd3.cell 2 rfl
    have d3 := kd3.cell 3 rfl
    have ld := kd3.lt
    have l5 := k53.lt
    have kd4 := kd3.alloc (.cells #[.bool r0, .int .u64 r1, .int .u64 r2, .int .i64 r3] 26)
    have k54 := k53.alloc (.cells #[.bool r0, .int .u64 r1, .int .u64 r2, .int .i64 r3] 26)
    have k74 := Bk.new w3 26 [.bool r0, .int .u64 r1, .int .u64 r2, .int .i64 r3]
    have mb4 := mb3.alloc (by have := mb3.size; omega) (.cells #[.bool r0, .int .u64 r1, .int .u64 r2, .int .i64 r3] 26)
    have HKD := Lib.hid kd4
    have HK5 := Lib.hid k54
    have HK7 := Lib.hid k74
    have HMB := Lib.hid mb4
    clear kd3 k53 kd4 k54 k74 mb3 mb4
    go_wp2_with fail
    obtain ⟨B7, hB7⟩ : ∃ B7, B7 = w3.heap.size := ⟨_, rfl⟩
    rw [← hB7] at HK7
    rw [← hB7]
    clear hB7 d0 d1 d2 d3 ld l5
    refine (K3.out _).mono ?_
    rintro _ w4 ⟨rfl, hb4⟩
    have kd := HKD.out.below hb4 HKD.out.lt
    have k5 := HK5.out.below hb4 HK5.out.lt
    have k7 := HK7.out.below hb4 HK7.out.lt
    have mb := HMB.out.trans (hb4.mono HMB.out.size)
    clear hb4 HKD HK5 HK7 HMB
    have d0 := kd.cell 0 rfl
    have d1 := kd.cell 1 rfl
    have d2 := kd.cell 2 rfl
    have d3 := kd.cell 3 rfl
    have HKD := Lib.hid kd
    have HK5 := Lib.hid k5
    have HK7 := Lib.hid k7
    have HMB := Lib.hid mb
    clear kd k5 k7 mb
    go_wp2_with fail
    refine (K4.out _).mono ?_
    clear d0 d1 d2 d3
    rintro _ w5 ⟨rfl, hb5⟩
    have kd := HKD.out.below hb5 HKD.out.lt
    have k5 := HK5.out.below hb5 HK5.out.lt
    have k7 := HK7.out.below hb5 HK7.out.lt
    have mb := HMB.out.trans (hb5.mono HMB.out.size)
    clear hb5 HKD HK5 HK7 HMB
    have d0 := kd.cell 0 rfl
    have d1 := kd.cell 1 rfl
    have d2 := kd.cell 2 rfl
    have d3 := kd.cell 3 rfl
    have p0 := k5.cell 0 rfl
    have p1 := k5.cell 1 rfl
    have p2 := k5.cell 2 rfl
    have p3 := k5.cell 3 rfl
    have q70 := k7.cell 0 rfl
    have q71 := k7.cell 1 rfl
    have q72 := k7.cell 2 rfl
    have q73 := k7.cell 3 rfl
    have HKD := Lib.hid kd
    have HMB := Lib.hid mb
    clear kd k5 k7 mb
    go_wp2_with fail
    have mb := HMB.out
    have hle := mb.size
    go_ret
    exact ⟨rfl, by (repeat' (first | (with_reducible exact Below.refl _ _) | (with_reducible assumption) | (with_reducible refine Below.drew ?_) | (with_reducible refine below_drewN ?_ _) | ((with_reducible refine Below.alloc ?_ ?_ _); rotate_left; focus (go_size; done)) | ((with_reducible refine Below.setCell ?_ ?_ _); rotate_left; focus (go_size; done)) | ((with_reducible refine Below.trans ?_ (Below.mono (by with_reducible assumption) ?_)); rotate_left; focus (go_size; done))))⟩
end Go.Proofs.YtogpbcllbbpgbaaDoor
