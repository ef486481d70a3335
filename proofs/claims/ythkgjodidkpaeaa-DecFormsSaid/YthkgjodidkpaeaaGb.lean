/- The reference: a fraction fitted into a decimal. -/
import Derived.Test.YthkgjodidkpaeaaGa
set_option linter.unusedSimpArgs false
set_option linter.unusedVariables false
namespace Go.Proofs.Ythkgjodidkpaeaa
open Go.RowKit

/-- a bound that bears a shift by eighteen places -/
def Slim (n : Nat) : Prop := True → n < 10 ^ 900
theorem Slim.of_lt {n k : Nat} (h : n < 10 ^ k) (hk : k ≤ 900) : Slim n := fun _ => Nat.lt_of_lt_of_le h (ten_le k 900 hk)
theorem Slim.tiny {n : Nat} (h : Slim n) : Tiny n := fun t => Nat.lt_of_lt_of_le (h t) (ten_le 900 999 (by decide))
theorem slim_key {n s : Nat} (a : Nat) (h : n < 10 ^ a) : n * 10 ^ s < 10 ^ (a + s) := by
  have h1 := Nat.mul_lt_mul_of_pos_right h (show 0 < 10 ^ s from Nat.pow_pos (by decide))
  rwa [← Nat.pow_add] at h1
theorem Slim.shift {n s : Nat} (h : Slim n) (hs : s ≤ 18) : Tiny (n * 10 ^ s) := fun t =>
  Nat.lt_of_lt_of_le (slim_key 900 (h t)) (ten_le (900 + s) 999 (by omega))
theorem fitd_yes {n d j : Nat} (h : near (n * 10 ^ j) d < B34) (e : fin (fitK n d (K19 n)) = fin (fitK n d (j + 1))) :
    FitC n d = stripC (near (n * 10 ^ j) d) j ∧ FitS n d = stripS (near (n * 10 ^ j) d) j ∧ FitE n d = 0 := by
  unfold FitC FitS FitE
  rw [e, fitK_yes h]
  exact ⟨rfl, rfl, rfl⟩
theorem fitd_no {n d j : Nat} (h : ¬ near (n * 10 ^ j) d < B34) (e : fin (fitK n d (K19 n)) = fin (fitK n d (j + 1))) : fin (fitK n d (K19 n)) = fin (fitK n d j) := by
  rw [e, fitK_no h]
theorem fitd_end {n d : Nat} (e : fin (fitK n d (K19 n)) = fin (fitK n d 0)) : FitC n d = 0 ∧ FitS n d = 0 ∧ FitE n d = 3 := by
  unfold FitC FitS FitE
  rw [e]
  exact ⟨rfl, rfl, rfl⟩
set_option maxHeartbeats 4000000 in
theorem rfit_any (neg : Bool) (n d : Nat) (u v : Value) (w : World) (hu : Dg w u n) (hv : Dg w v d) (hn : Slim n) (hd : Slim d) (h0 : 0 < d) : Calls Try.prog 60 #[.bool neg, u, v] w fun e w' => e = .returned (.tuple #[.agg #[.bool (sg neg (FitC (n) (d))), .int .u64 (wd (FitC (n) (d)) 1), .int .u64 (wd (FitC (n) (d)) 0), .int .i64 (FitS (n) (d))], .int .i64 (FitE n d)]) ∧ Below w.heap.size w w' := by
  have HU := Lib.hid hu
  have HV := Lib.hid hv
  have HN := Lib.hid hn
  have HD := Lib.hid hd
  have HP := Lib.hid h0
  obtain ⟨C, hC⟩ : ∃ C, C = FitC n d := ⟨_, rfl⟩
  obtain ⟨S, hS⟩ : ∃ S, S = FitS n d := ⟨_, rfl⟩
  obtain ⟨E, hE⟩ : ∃ E, E = FitE n d := ⟨_, rfl⟩
  rw [← hC, ← hS, ← hE]
  have EC := Far.mk hC
  have ES := Far.mk hS
  have EE := Far.mk hE
  have H19 := Far.mk (K19_eq n)
  clear hC hS hE hu hv hn hd h0
  go_enter Try.func60, Try.ntmps60
  go_wp2_with fail
  go_loopg [8] 19 (fun kk sv wr => kk ≤ 19 ∧ sv = .int .i64 ((kk : Int) - 1) ∧ Far (fin (fitK n d (K19 n)) = fin (fitK n d kk)) ∧ Bk wr w.heap.size 26 [.bool false, .int .u64 0, .int .u64 0, .int .i64 0] ∧ Below w.heap.size w wr)
  case atStart => exact ⟨Nat.le_refl _, rfl, Far.mk (by rw [H19.out]), by (repeat (first | (with_reducible assumption) | ((with_reducible refine Bk.new_ ?_); (first | rfl | (simp only [World.size_alloc, World.size_setCell, World.size_drew, World.heap_drewN]; done))) | (with_reducible refine Bk.alloc ?_ _) | (with_reducible refine Bk.drew ?_) | (with_reducible refine Bk.drewN ?_ _) | ((with_reducible refine Bk.far ?_ ?_ _); rotate_left; focus (simp only []; omega)) | ((with_reducible refine Bk.below ?_ (by with_reducible assumption) ?_); rotate_left; focus (go_size; done)))), by (repeat' (first | (with_reducible exact Below.refl _ _) | (with_reducible assumption) | (with_reducible refine Below.drew ?_) | (with_reducible refine below_drewN ?_ _) | ((with_reducible refine Below.alloc ?_ ?_ _); rotate_left; focus (go_size; done)) | ((with_reducible refine Below.setCell ?_ ?_ _); rotate_left; focus (go_size; done)) | ((with_reducible refine Below.trans ?_ (Below.mono (by with_reducible assumption) ?_)); rotate_left; focus (go_size; done))))⟩
  case round =>
    obtain ⟨hk19, rfl, he, b0, hbel⟩ := hrel
    have HB0 := Lib.hid b0
    have l0 := b0.lt
    by_cases hz : gk = 0
    · subst hz
      have hm : ¬ (0 : Int) ≤ ((0 : Nat) : Int) - 1 := by omega
      have b0_0 := b0.cell 0 rfl
      have b0_1 := b0.cell 1 rfl
      have b0_2 := b0.cell 2 rfl
      have b0_3 := b0.cell 3 rfl
      have b0_4 := b0.frozen 0
      have b0_5 := b0.frozen 1
      have b0_6 := b0.frozen 2
      have b0_7 := b0.frozen 3
      clear b0
      go_wp2_with fail
      refine bodyPost_ret (by simp [results, Try.results60, go_sem, *]; try rfl) rfl ?_
      obtain ⟨e1, e2, e3⟩ := fitd_end he.out
      exact ⟨by rw [EC.out, ES.out, EE.out, e1, e2, e3, wd_zero, wd_zero, sg_zero]; rfl, by (repeat' (first | (with_reducible exact Below.refl _ _) | (with_reducible assumption) | (with_reducible refine Below.drew ?_) | (with_reducible refine below_drewN ?_ _) | ((with_reducible refine Below.alloc ?_ ?_ _); rotate_left; focus (go_size; done)) | ((with_reducible refine Below.setCell ?_ ?_ _); rotate_left; focus (go_size; done)) | ((with_reducible refine Below.trans ?_ (Below.mono (by with_reducible assumption) ?_)); rotate_left; focus (go_size; done))))⟩
    · obtain ⟨j, rfl⟩ : ∃ j, gk = j + 1 := ⟨gk - 1, by omega⟩
      have hx : ((j + 1 : Nat) : Int) - 1 = (j : Int) := by omega
      rw [hx]
      have j0 : (0 : Int) ≤ (j : Int) := by omega
      have hnear := near_small (HN.out.shift (s := j) (by omega)) d
      have HNS := Lib.hid hnear
      clear hx b0 hnear
      go_wp2_with fail
      refine (shift_any n j (by omega) _ _ (HU.out.below hbel) HN.out.tiny.small).mono ?_
      rintro _ w1 ⟨v1, rfl, d1, hb1⟩; have hb1s := hb1.size; (try simp only [World.size_alloc, World.size_setCell, World.size_drew, World.heap_drewN] at hb1s); obtain ⟨hb1c, hb1f⟩ := bcell hb1; (try have : w.heap.size < w1.heap.size := by omega); (try have : w.heap.size + 1 < w1.heap.size := by omega); (try have : w.heap.size + 1 + 1 < w1.heap.size := by omega); (try have : w.heap.size + 1 + 1 + 1 < w1.heap.size := by omega); have Hd1 := Lib.hid d1; clear d1
      go_wp2_with fail
      refine (near_any (n * 10 ^ j) d HP.out _ _ _ Hd1.out ((HV.out.below hbel).below hb1) (HN.out.shift (by omega)) HD.out.tiny).mono ?_
      rintro _ w2 ⟨v2, rfl, d2, hb2⟩; have hb2s := hb2.size; (try simp only [World.size_alloc, World.size_setCell, World.size_drew, World.heap_drewN] at hb2s); obtain ⟨hb2c, hb2f⟩ := bcell hb2; (try have : w.heap.size < w2.heap.size := by omega); (try have : w.heap.size + 1 < w2.heap.size := by omega); (try have : w.heap.size + 1 + 1 < w2.heap.size := by omega); (try have : w.heap.size + 1 + 1 + 1 < w2.heap.size := by omega); have Hd2 := Lib.hid d2; clear d2
      have hyes := fitd_yes (n := n) (d := d) (j := j)
      have hno := fitd_no (n := n) (d := d) (j := j)
      have HYES := Far.mk hyes
      have HNO := Far.mk hno
      generalize near (n * 10 ^ j) d = q at *
      have r0 : Bk w2 w.heap.size 26 [.bool false, .int .u64 0, .int .u64 0, .int .i64 0] := by
        have b0 := HB0.out
        (repeat (first | (with_reducible assumption) | ((with_reducible refine Bk.new_ ?_); (first | rfl | (simp only [World.size_alloc, World.size_setCell, World.size_drew, World.heap_drewN]; done))) | (with_reducible refine Bk.alloc ?_ _) | (with_reducible refine Bk.drew ?_) | (with_reducible refine Bk.drewN ?_ _) | ((with_reducible refine Bk.far ?_ ?_ _); rotate_left; focus (simp only []; omega)) | ((with_reducible refine Bk.below ?_ (by with_reducible assumption) ?_); rotate_left; focus (go_size; done))))
      have HR0 := Lib.hid r0
      have mb : Below w.heap.size w w2 := by (repeat' (first | (with_reducible exact Below.refl _ _) | (with_reducible assumption) | (with_reducible refine Below.drew ?_) | (with_reducible refine below_drewN ?_ _) | ((with_reducible refine Below.alloc ?_ ?_ _); rotate_left; focus (go_size; done)) | ((with_reducible refine Below.setCell ?_ ?_ _); rotate_left; focus (go_size; done)) | ((with_reducible refine Below.trans ?_ (Below.mono (by with_reducible assumption) ?_)); rotate_left; focus (go_size; done))))
      clear hyes hno hb1c hb1f hb2c hb2f r0
      obtain ⟨xs, ⟨A, c, rfl, hc, hs⟩, hd⟩ := Hd2.out
      have h34 := len_34 hd
      by_cases hq : q < B34
      · obtain ⟨e1, e2, e3⟩ := HYES.out hq he.out
        have HM := Lib.hid (fun W hv => make1_any neg q j (.slice A xs.length c) W hv hq (by omega))
        rw [← e1, ← e2, ← EC.out, ← ES.out] at HM
        have E3 := Far.mk e3
        have hl : (xs.length : Int) ≤ 34 := by have := h34.2 hq; omega
        clear hq e1 e2 e3 HYES HNO he h34 hc hs hd
        go_wp2_with fail
        refine (HM.out _ Hd2.out).mono ?_
        rintro _ w3 ⟨rfl, hb3⟩; have hb3s := hb3.size; (try simp only [World.size_alloc, World.size_setCell, World.size_drew, World.heap_drewN] at hb3s); obtain ⟨hb3c, hb3f⟩ := bcell hb3; (try have : w.heap.size < w3.heap.size := by omega); (try have : w.heap.size + 1 < w3.heap.size := by omega); (try have : w.heap.size + 1 + 1 < w3.heap.size := by omega); (try have : w.heap.size + 1 + 1 + 1 < w3.heap.size := by omega)
        have k0 : Bk w3 w.heap.size 26 [.bool false, .int .u64 0, .int .u64 0, .int .i64 0] := by
          have r0 := HR0.out
          (repeat (first | (with_reducible assumption) | ((with_reducible refine Bk.new_ ?_); (first | rfl | (simp only [World.size_alloc, World.size_setCell, World.size_drew, World.heap_drewN]; done))) | (with_reducible refine Bk.alloc ?_ _) | (with_reducible refine Bk.drew ?_) | (with_reducible refine Bk.drewN ?_ _) | ((with_reducible refine Bk.far ?_ ?_ _); rotate_left; focus (simp only []; omega)) | ((with_reducible refine Bk.below ?_ (by with_reducible assumption) ?_); rotate_left; focus (go_size; done))))
        have k0_0 := k0.cell 0 rfl
        have k0_1 := k0.cell 1 rfl
        have k0_2 := k0.cell 2 rfl
        have k0_3 := k0.cell 3 rfl
        have k0_4 := k0.frozen 0
        have k0_5 := k0.frozen 1
        have k0_6 := k0.frozen 2
        have k0_7 := k0.frozen 3
        have k0l := k0.lt
        clear k0 hb3c hb3f
        go_wp2_with fail
        refine bodyPost_ret (by simp [results, Try.results60, go_sem, *]; try rfl) rfl ?_
        exact ⟨by rw [EE.out, E3.out], by (repeat' (first | (with_reducible exact Below.refl _ _) | (with_reducible assumption) | (with_reducible refine Below.drew ?_) | (with_reducible refine below_drewN ?_ _) | ((with_reducible refine Below.alloc ?_ ?_ _); rotate_left; focus (go_size; done)) | ((with_reducible refine Below.setCell ?_ ?_ _); rotate_left; focus (go_size; done)) | ((with_reducible refine Below.trans ?_ (Below.mono (by with_reducible assumption) ?_)); rotate_left; focus (go_size; done))))⟩
      · have HNX := Far.mk (HNO.out hq he.out)
        have hl : ¬ (xs.length : Int) ≤ 34 := by
          have := mt h34.1 hq
          omega
        clear hq HYES HNO he h34 hc hs hd
        go_wp2_with fail
        go_roundg j
        case measure => omega
        case rel => exact ⟨by omega, rfl, HNX, HR0.out, mb⟩
end Go.Proofs.Ythkgjodidkpaeaa
