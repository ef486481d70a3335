/- The program's Parse; what is asked first; the four laws' calls joined. -/
import Derived.Test.YtmfkhmlpikdmeaaKf
import Derived.Test.YtmfkhmlpikdmeaaKd
namespace Go.Proofs.Ytmfkhmlpikdmeaa
open Go.RowKit

theorem cutp (l : List UInt8) (w : World) : Calls Try.prog 21 #[.string ⟨l.toArray⟩, .string ⟨#[108, 105, 115, 116, 60]⟩] w fun e w' => e = .returned (.tuple #[.string ⟨(Lib.trimPrefix l listS).toArray⟩, .bool (Lib.hasPrefix l listS)]) ∧ Below w.heap.size w w' :=
  (Try.strings_CutPrefix ⟨l.toArray⟩ ⟨listS.toArray⟩ w).mono fun e w' h => by
    obtain ⟨h1, h2⟩ := h
    subst h2
    exact ⟨by simpa using h1, Below.refl _ _⟩
theorem cuts (l : List UInt8) (hl : l.length ≤ 9223372036854775807) (w : World) : Calls Try.prog 22 #[.string ⟨l.toArray⟩, .string ⟨#[62]⟩] w fun e w' => e = .returned (.tuple #[.string ⟨(Lib.trimSuffix l [62]).toArray⟩, .bool (Lib.hasSuffix l [62])]) ∧ Below w.heap.size w w' :=
  (Try.strings_CutSuffix ⟨l.toArray⟩ ⟨([62] : List UInt8).toArray⟩ w (by simpa [ByteArray.size] using hl)).mono fun e w' h => by
    obtain ⟨h1, h2⟩ := h
    subst h2
    exact ⟨by simpa using h1, Below.refl _ _⟩
theorem trim_len (l p : List UInt8) : (Lib.trimPrefix l p).length ≤ l.length := by
  unfold Lib.trimPrefix; split <;> simp

set_option maxHeartbeats 1000000 in
theorem parse_any (l : List UInt8) (hl : l.length ≤ 9223372036854775807) (w : World) : Calls Try.prog 11 #[.string ⟨l.toArray⟩] w fun e w' => e = .returned (.tuple #[.agg #[.int .i64 (ofR (parseT l)).1, .int .i64 (ofR (parseT l)).2.1], .int .i64 (ofR (parseT l)).2.2]) ∧ Below w.heap.size w w' := by
  cases hp : Lib.hasPrefix l listS
  · have e0 : Lib.trimPrefix l listS = l := by unfold Lib.trimPrefix; rw [hp]; rfl
    have HC := Lib.hid (fun W => cutp l W)
    rw [e0, hp] at HC
    have HP := Lib.hid hp
    clear hp e0 hl
    go_enter Try.func11, Try.ntmps11
    go_wp2_with ((go_at_call 21; with_reducible refine (HC.out _).mono ?_); rintro _ w1 ⟨rfl, hb1⟩; have hb1s := hb1.size; (try simp only [World.size_alloc, World.size_setCell, World.size_drew] at hb1s); obtain ⟨hb1c, hb1f⟩ := bcell hb1; (try have : w.heap.size < w1.heap.size := by omega); (try have : w.heap.size + 1 < w1.heap.size := by omega); (try have : w.heap.size + 1 + 1 < w1.heap.size := by omega); (try have : w.heap.size + 1 + 1 + 1 < w1.heap.size := by omega))
    clear hb1c hb1f
    go_loopg [22] 5 (fun k i wr => ∃ n : Nat, k + n = 5 ∧ i = .int .i64 n ∧ w.heap.size + 1 ≤ wr.heap.size ∧ Below w.heap.size w wr ∧
      Bk wr w.heap.size 23 [.int .i64 0, .int .i64 0] ∧ ∀ j, j < n → simpleS j ≠ l)
    case atStart =>
      exact ⟨0, rfl, rfl, by go_size, by (repeat' (first | (with_reducible exact Below.refl _ _) | (with_reducible assumption) | (with_reducible refine Below.drew ?_) | (with_reducible refine below_drewN ?_ _) | ((with_reducible refine Below.alloc ?_ ?_ _); rotate_left; focus (go_size; done)) | ((with_reducible refine Below.setCell ?_ ?_ _); rotate_left; focus (go_size; done)) | ((with_reducible refine Below.trans ?_ (Below.mono (by with_reducible assumption) ?_)); rotate_left; focus (go_size; done)))), by (repeat (first | (with_reducible assumption) | ((with_reducible refine Bk.new_ ?_); (first | rfl | (simp only [World.size_alloc, World.size_setCell, World.size_drew]; done))) | (with_reducible refine Bk.alloc ?_ _) | (with_reducible refine Bk.drew ?_) | ((with_reducible refine Bk.far ?_ ?_ _); rotate_left; focus (simp only []; omega)) | ((with_reducible refine Bk.below ?_ (by with_reducible assumption) ?_); rotate_left; focus (go_size; done)))), fun j hj => absurd hj (by omega)⟩
    case round =>
      obtain ⟨n, hk, rfl, hsz, hbel, k0, hno⟩ := hrel
      have HK := Lib.hid hk
      have HNO := Lib.hid hno
      have c00 := k0.cell 0 rfl
      have c01 := k0.cell 1 rfl
      have f00 := k0.frozen 0
      have f01 := k0.frozen 1
      have hn : n ≤ 5 := by omega
      clear hk hno
      (try have : w.heap.size < wr.heap.size := by omega); (try have : w.heap.size + 1 < wr.heap.size := by omega); (try have : w.heap.size + 1 + 1 < wr.heap.size := by omega); (try have : w.heap.size + 1 + 1 + 1 < wr.heap.size := by omega)
      by_cases hlt : n < 5
      · have h0 : (0 : Int) ≤ (n : Int) := by omega
        have h1 : (n : Int) < 5 := by omega
        have hnm := fun W => simple_any n h0 h1 W
        rw [Int.toNat_natCast] at hnm
        have HNM := Lib.hid hnm
        clear hnm
        by_cases hq : simpleS n = l
        · have e1 : (simpleS n == l) = true := by simpa using hq
          have e2 := parse_low HP.out n hlt hq HNO.out
          have HE := Lib.hid e2
          clear e2 hq
          go_wp2_with ((go_at_call 18; with_reducible refine (HNM.out _).mono ?_); rintro _ w2 ⟨rfl, hb2⟩; have hb2s := hb2.size; (try simp only [World.size_alloc, World.size_setCell, World.size_drew] at hb2s); obtain ⟨hb2c, hb2f⟩ := bcell hb2; (try have : w.heap.size < w2.heap.size := by omega); (try have : w.heap.size + 1 < w2.heap.size := by omega); (try have : w.heap.size + 1 + 1 < w2.heap.size := by omega); (try have : w.heap.size + 1 + 1 + 1 < w2.heap.size := by omega))
          refine bodyPost_ret (by simp [results, Try.results11, go_sem, *]; try rfl) rfl ?_
          rw [HE.out]
          refine ⟨?_, by (repeat' (first | (with_reducible exact Below.refl _ _) | (with_reducible assumption) | (with_reducible refine Below.drew ?_) | (with_reducible refine below_drewN ?_ _) | ((with_reducible refine Below.alloc ?_ ?_ _); rotate_left; focus (go_size; done)) | ((with_reducible refine Below.setCell ?_ ?_ _); rotate_left; focus (go_size; done)) | ((with_reducible refine Below.trans ?_ (Below.mono (by with_reducible assumption) ?_)); rotate_left; focus (go_size; done))))⟩
          simp [ofR, ofT]
          first | (rw [if_pos (by omega)]; exact ⟨rfl, rfl⟩) | (rw [if_neg (by omega)]; exact ⟨rfl, by omega⟩)
        · have e1 : (simpleS n == l) = false := by simpa using hq
          have HQ := Lib.hid hq
          clear hq
          go_wp2_with ((go_at_call 18; with_reducible refine (HNM.out _).mono ?_); rintro _ w2 ⟨rfl, hb2⟩; have hb2s := hb2.size; (try simp only [World.size_alloc, World.size_setCell, World.size_drew] at hb2s); obtain ⟨hb2c, hb2f⟩ := bcell hb2; (try have : w.heap.size < w2.heap.size := by omega); (try have : w.heap.size + 1 < w2.heap.size := by omega); (try have : w.heap.size + 1 + 1 < w2.heap.size := by omega); (try have : w.heap.size + 1 + 1 + 1 < w2.heap.size := by omega))
          go_roundg (gk - 1)
          case measure => have := HK.out; omega
          case rel =>
            refine ⟨n + 1, by have := HK.out; omega, by go_num, by go_size, by (repeat' (first | (with_reducible exact Below.refl _ _) | (with_reducible assumption) | (with_reducible refine Below.drew ?_) | (with_reducible refine below_drewN ?_ _) | ((with_reducible refine Below.alloc ?_ ?_ _); rotate_left; focus (go_size; done)) | ((with_reducible refine Below.setCell ?_ ?_ _); rotate_left; focus (go_size; done)) | ((with_reducible refine Below.trans ?_ (Below.mono (by with_reducible assumption) ?_)); rotate_left; focus (go_size; done)))), by (repeat (first | (with_reducible assumption) | ((with_reducible refine Bk.new_ ?_); (first | rfl | (simp only [World.size_alloc, World.size_setCell, World.size_drew]; done))) | (with_reducible refine Bk.alloc ?_ _) | (with_reducible refine Bk.drew ?_) | ((with_reducible refine Bk.far ?_ ?_ _); rotate_left; focus (simp only []; omega)) | ((with_reducible refine Bk.below ?_ (by with_reducible assumption) ?_); rotate_left; focus (go_size; done)))), ?_⟩
            intro j hj
            rcases Nat.lt_or_ge j n with h | h
            · exact HNO.out j h
            · obtain rfl : j = n := by omega
              exact HQ.out
      · obtain rfl : n = 5 := by omega
        have e : parseT l = none := parse_no HP.out HNO.out
        have HE := Lib.hid e
        clear e
        go_wp2
        refine bodyPost_ret (by simp [results, Try.results11, go_sem, *]; try rfl) rfl ?_
        rw [HE.out]
        exact ⟨rfl, by (repeat' (first | (with_reducible exact Below.refl _ _) | (with_reducible assumption) | (with_reducible refine Below.drew ?_) | (with_reducible refine below_drewN ?_ _) | ((with_reducible refine Below.alloc ?_ ?_ _); rotate_left; focus (go_size; done)) | ((with_reducible refine Below.setCell ?_ ?_ _); rotate_left; focus (go_size; done)) | ((with_reducible refine Below.trans ?_ (Below.mono (by with_reducible assumption) ?_)); rotate_left; focus (go_size; done))))⟩
  · have HC := Lib.hid (fun W => cutp l W)
    rw [hp] at HC
    have hl2 : (Lib.trimPrefix l listS).length ≤ 9223372036854775807 := Nat.le_trans (trim_len l listS) hl
    have HD := Lib.hid (fun W => cuts (Lib.trimPrefix l listS) hl2 W)
    cases hs : Lib.hasSuffix (Lib.trimPrefix l listS) [62]
    · rw [hs] at HD
      have e : parseT l = none := parse_open hp hs
      have HE := Lib.hid e
      generalize Lib.trimPrefix l listS = p at *
      clear hp hs hl hl2 e
      go_enter Try.func11, Try.ntmps11
      go_wp2_with (first
        | ((go_at_call 21; with_reducible refine (HC.out _).mono ?_); rintro _ w1 ⟨rfl, hb1⟩; have hb1s := hb1.size; (try simp only [World.size_alloc, World.size_setCell, World.size_drew] at hb1s); obtain ⟨hb1c, hb1f⟩ := bcell hb1; (try have : w.heap.size < w1.heap.size := by omega); (try have : w.heap.size + 1 < w1.heap.size := by omega); (try have : w.heap.size + 1 + 1 < w1.heap.size := by omega); (try have : w.heap.size + 1 + 1 + 1 < w1.heap.size := by omega))
        | ((go_at_call 22; with_reducible refine (HD.out _).mono ?_); rintro _ w2 ⟨rfl, hb2⟩; have hb2s := hb2.size; (try simp only [World.size_alloc, World.size_setCell, World.size_drew] at hb2s); obtain ⟨hb2c, hb2f⟩ := bcell hb2; (try have : w.heap.size < w2.heap.size := by omega); (try have : w.heap.size + 1 < w2.heap.size := by omega); (try have : w.heap.size + 1 + 1 < w2.heap.size := by omega); (try have : w.heap.size + 1 + 1 + 1 < w2.heap.size := by omega)))
      refine bodyPost_ret (by simp [results, Try.results11, go_sem, *]; try rfl) rfl ?_
      rw [HE.out]
      exact ⟨rfl, by (repeat' (first | (with_reducible exact Below.refl _ _) | (with_reducible assumption) | (with_reducible refine Below.drew ?_) | (with_reducible refine below_drewN ?_ _) | ((with_reducible refine Below.alloc ?_ ?_ _); rotate_left; focus (go_size; done)) | ((with_reducible refine Below.setCell ?_ ?_ _); rotate_left; focus (go_size; done)) | ((with_reducible refine Below.trans ?_ (Below.mono (by with_reducible assumption) ?_)); rotate_left; focus (go_size; done))))⟩
    · rw [hs] at HD
      have HL := Lib.hid (parse_shape hp hs)
      generalize Lib.trimPrefix l listS = p at *
      generalize Lib.trimSuffix p [62] = q at *
      clear hp hs hl hl2
      go_enter Try.func11, Try.ntmps11
      go_wp2_with (first
        | ((go_at_call 21; with_reducible refine (HC.out _).mono ?_); rintro _ w1 ⟨rfl, hb1⟩; have hb1s := hb1.size; (try simp only [World.size_alloc, World.size_setCell, World.size_drew] at hb1s); obtain ⟨hb1c, hb1f⟩ := bcell hb1; (try have : w.heap.size < w1.heap.size := by omega); (try have : w.heap.size + 1 < w1.heap.size := by omega); (try have : w.heap.size + 1 + 1 < w1.heap.size := by omega); (try have : w.heap.size + 1 + 1 + 1 < w1.heap.size := by omega))
        | ((go_at_call 22; with_reducible refine (HD.out _).mono ?_); rintro _ w2 ⟨rfl, hb2⟩; have hb2s := hb2.size; (try simp only [World.size_alloc, World.size_setCell, World.size_drew] at hb2s); obtain ⟨hb2c, hb2f⟩ := bcell hb2; (try have : w.heap.size < w2.heap.size := by omega); (try have : w.heap.size + 1 < w2.heap.size := by omega); (try have : w.heap.size + 1 + 1 < w2.heap.size := by omega); (try have : w.heap.size + 1 + 1 + 1 < w2.heap.size := by omega)))
      clear hb1c hb1f hb2c hb2f
      go_loopg [22] 5 (fun k i wr => ∃ n : Nat, k + n = 5 ∧ i = .int .i64 n ∧ w.heap.size + 1 ≤ wr.heap.size ∧ Below w.heap.size w wr ∧
        Bk wr w.heap.size 23 [.int .i64 0, .int .i64 0] ∧ ∀ j, j < n → simpleS j ≠ q)
      case atStart =>
        exact ⟨0, rfl, rfl, by go_size, by (repeat' (first | (with_reducible exact Below.refl _ _) | (with_reducible assumption) | (with_reducible refine Below.drew ?_) | (with_reducible refine below_drewN ?_ _) | ((with_reducible refine Below.alloc ?_ ?_ _); rotate_left; focus (go_size; done)) | ((with_reducible refine Below.setCell ?_ ?_ _); rotate_left; focus (go_size; done)) | ((with_reducible refine Below.trans ?_ (Below.mono (by with_reducible assumption) ?_)); rotate_left; focus (go_size; done)))), by (repeat (first | (with_reducible assumption) | ((with_reducible refine Bk.new_ ?_); (first | rfl | (simp only [World.size_alloc, World.size_setCell, World.size_drew]; done))) | (with_reducible refine Bk.alloc ?_ _) | (with_reducible refine Bk.drew ?_) | ((with_reducible refine Bk.far ?_ ?_ _); rotate_left; focus (simp only []; omega)) | ((with_reducible refine Bk.below ?_ (by with_reducible assumption) ?_); rotate_left; focus (go_size; done)))), fun j hj => absurd hj (by omega)⟩
      case round =>
        obtain ⟨n, hk, rfl, hsz, hbel, k0, hno⟩ := hrel
        have HK := Lib.hid hk
        have HNO := Lib.hid hno
        have c00 := k0.cell 0 rfl
        have c01 := k0.cell 1 rfl
        have f00 := k0.frozen 0
        have f01 := k0.frozen 1
        have hn : n ≤ 5 := by omega
        clear hk hno
        (try have : w.heap.size < wr.heap.size := by omega); (try have : w.heap.size + 1 < wr.heap.size := by omega); (try have : w.heap.size + 1 + 1 < wr.heap.size := by omega); (try have : w.heap.size + 1 + 1 + 1 < wr.heap.size := by omega)
        by_cases hlt : n < 5
        · have h0 : (0 : Int) ≤ (n : Int) := by omega
          have h1 : (n : Int) < 5 := by omega
          have hnm := fun W => simple_any n h0 h1 W
          rw [Int.toNat_natCast] at hnm
          have HNM := Lib.hid hnm
          clear hnm
          by_cases hq : simpleS n = q
          · have e1 : (simpleS n == q) = true := by simpa using hq
            have e2 := parse_high HL.out n hlt hq HNO.out
            have HE := Lib.hid e2
            clear e2 hq
            go_wp2_with ((go_at_call 18; with_reducible refine (HNM.out _).mono ?_); rintro _ w2 ⟨rfl, hb2⟩; have hb2s := hb2.size; (try simp only [World.size_alloc, World.size_setCell, World.size_drew] at hb2s); obtain ⟨hb2c, hb2f⟩ := bcell hb2; (try have : w.heap.size < w2.heap.size := by omega); (try have : w.heap.size + 1 < w2.heap.size := by omega); (try have : w.heap.size + 1 + 1 < w2.heap.size := by omega); (try have : w.heap.size + 1 + 1 + 1 < w2.heap.size := by omega))
            refine bodyPost_ret (by simp [results, Try.results11, go_sem, *]; try rfl) rfl ?_
            rw [HE.out]
            refine ⟨?_, by (repeat' (first | (with_reducible exact Below.refl _ _) | (with_reducible assumption) | (with_reducible refine Below.drew ?_) | (with_reducible refine below_drewN ?_ _) | ((with_reducible refine Below.alloc ?_ ?_ _); rotate_left; focus (go_size; done)) | ((with_reducible refine Below.setCell ?_ ?_ _); rotate_left; focus (go_size; done)) | ((with_reducible refine Below.trans ?_ (Below.mono (by with_reducible assumption) ?_)); rotate_left; focus (go_size; done))))⟩
            simp [ofR, ofT]
            first | (rw [if_pos (by omega)]; exact ⟨rfl, rfl⟩) | (rw [if_neg (by omega)]; exact ⟨rfl, by omega⟩)
          · have e1 : (simpleS n == q) = false := by simpa using hq
            have HQ := Lib.hid hq
            clear hq
            go_wp2_with ((go_at_call 18; with_reducible refine (HNM.out _).mono ?_); rintro _ w2 ⟨rfl, hb2⟩; have hb2s := hb2.size; (try simp only [World.size_alloc, World.size_setCell, World.size_drew] at hb2s); obtain ⟨hb2c, hb2f⟩ := bcell hb2; (try have : w.heap.size < w2.heap.size := by omega); (try have : w.heap.size + 1 < w2.heap.size := by omega); (try have : w.heap.size + 1 + 1 < w2.heap.size := by omega); (try have : w.heap.size + 1 + 1 + 1 < w2.heap.size := by omega))
            go_roundg (gk - 1)
            case measure => have := HK.out; omega
            case rel =>
              refine ⟨n + 1, by have := HK.out; omega, by go_num, by go_size, by (repeat' (first | (with_reducible exact Below.refl _ _) | (with_reducible assumption) | (with_reducible refine Below.drew ?_) | (with_reducible refine below_drewN ?_ _) | ((with_reducible refine Below.alloc ?_ ?_ _); rotate_left; focus (go_size; done)) | ((with_reducible refine Below.setCell ?_ ?_ _); rotate_left; focus (go_size; done)) | ((with_reducible refine Below.trans ?_ (Below.mono (by with_reducible assumption) ?_)); rotate_left; focus (go_size; done)))), by (repeat (first | (with_reducible assumption) | ((with_reducible refine Bk.new_ ?_); (first | rfl | (simp only [World.size_alloc, World.size_setCell, World.size_drew]; done))) | (with_reducible refine Bk.alloc ?_ _) | (with_reducible refine Bk.drew ?_) | ((with_reducible refine Bk.far ?_ ?_ _); rotate_left; focus (simp only []; omega)) | ((with_reducible refine Bk.below ?_ (by with_reducible assumption) ?_); rotate_left; focus (go_size; done)))), ?_⟩
              intro j hj
              rcases Nat.lt_or_ge j n with h | h
              · exact HNO.out j h
              · obtain rfl : j = n := by omega
                exact HQ.out
        · obtain rfl : n = 5 := by omega
          have e : parseT l = none := parse_high_no HL.out HNO.out
          have HE := Lib.hid e
          clear e
          go_wp2
          refine bodyPost_ret (by simp [results, Try.results11, go_sem, *]; try rfl) rfl ?_
          rw [HE.out]
          exact ⟨rfl, by (repeat' (first | (with_reducible exact Below.refl _ _) | (with_reducible assumption) | (with_reducible refine Below.drew ?_) | (with_reducible refine below_drewN ?_ _) | ((with_reducible refine Below.alloc ?_ ?_ _); rotate_left; focus (go_size; done)) | ((with_reducible refine Below.setCell ?_ ?_ _); rotate_left; focus (go_size; done)) | ((with_reducible refine Below.trans ?_ (Below.mono (by with_reducible assumption) ?_)); rotate_left; focus (go_size; done))))⟩

set_option maxHeartbeats 400000 in
theorem known_any (w : World) : Calls Try.prog 5 #[] w fun e w' => e = .returned (.bool true) ∧ Below w.heap.size w w' := by
  have hn := fun W => name_any 5 2 W
  have e1 : nameT 5 2 = [108, 105, 115, 116, 60, 110, 117, 109, 98, 101, 114, 62] := rfl
  have e2 : errT 5 2 = 0 := rfl
  rw [e1, e2] at hn
  have hp := fun W => parse_any [108, 105, 115, 116, 60, 110, 117, 109, 98, 101, 114, 62] (by decide) W
  have e3 : ofR (parseT [108, 105, 115, 116, 60, 110, 117, 109, 98, 101, 114, 62]) = (5, 2, 0) := by decide
  rw [e3] at hp
  have HN := Lib.hid hn
  have HP := Lib.hid hp
  clear hn hp e1 e2 e3
  go_enter Try.func5, Try.ntmps5
  go_wp2_with (first
    | ((go_at_call 9; with_reducible refine (HN.out _).mono ?_); rintro _ w1 ⟨rfl, hb1⟩; have hb1s := hb1.size; (try simp only [World.size_alloc, World.size_setCell, World.size_drew] at hb1s); obtain ⟨hb1c, hb1f⟩ := bcell hb1; (try have : w.heap.size < w1.heap.size := by omega); (try have : w.heap.size + 1 < w1.heap.size := by omega); (try have : w.heap.size + 1 + 1 < w1.heap.size := by omega); (try have : w.heap.size + 1 + 1 + 1 < w1.heap.size := by omega))
    | ((go_at_call 11; with_reducible refine (HP.out _).mono ?_); rintro _ w2 ⟨rfl, hb2⟩; have hb2s := hb2.size; (try simp only [World.size_alloc, World.size_setCell, World.size_drew] at hb2s); obtain ⟨hb2c, hb2f⟩ := bcell hb2; (try have : w.heap.size < w2.heap.size := by omega); (try have : w.heap.size + 1 < w2.heap.size := by omega); (try have : w.heap.size + 1 + 1 < w2.heap.size := by omega); (try have : w.heap.size + 1 + 1 + 1 < w2.heap.size := by omega)))
  go_ret
  exact ⟨rfl, by (repeat' (first | (with_reducible exact Below.refl _ _) | (with_reducible assumption) | (with_reducible refine Below.drew ?_) | (with_reducible refine below_drewN ?_ _) | ((with_reducible refine Below.alloc ?_ ?_ _); rotate_left; focus (go_size; done)) | ((with_reducible refine Below.setCell ?_ ?_ _); rotate_left; focus (go_size; done)) | ((with_reducible refine Below.trans ?_ (Below.mono (by with_reducible assumption) ?_)); rotate_left; focus (go_size; done))))⟩

def underR (a b c d : Int) : Bool := formB a b && formB c d && underB a b c d
def err2 (a b c d : Int) : Int := if formB a b = true ∧ formB c d = true then 0 else 2
def joinR (a b c d : Int) : Int × Int := if formB a b = true ∧ formB c d = true then joinP (a, b) (c, d) else (0, 0)
set_option maxHeartbeats 400000 in
theorem dunder_any (a b c d : Int) (w : World) : Calls Try.prog 12 #[.agg #[.int .i64 a, .int .i64 b], .agg #[.int .i64 c, .int .i64 d]] w fun e w' => e = .returned (.tuple #[.bool (underR a b c d), .int .i64 (err2 a b c d)]) ∧ Below w.heap.size w w' := by
  cases h1 : formB a b
  · have e1 : underR a b c d = false := by simp [underR, h1]
    have e2 : err2 a b c d = 2 := by simp [err2, h1]
    rw [e1, e2]
    clear e1 e2
    go_enter Try.func12, Try.ntmps12
    go_wp2_with ((go_at_call 7; with_reducible refine (rform_any _ _ _).mono ?_); rintro _ w1 ⟨rfl, hb1⟩; have hb1s := hb1.size; (try simp only [World.size_alloc, World.size_setCell, World.size_drew] at hb1s); obtain ⟨hb1c, hb1f⟩ := bcell hb1; (try have : w.heap.size < w1.heap.size := by omega); (try have : w.heap.size + 1 < w1.heap.size := by omega); (try have : w.heap.size + 1 + 1 < w1.heap.size := by omega); (try have : w.heap.size + 1 + 1 + 1 < w1.heap.size := by omega))
    go_ret2
    exact ⟨rfl, by (repeat' (first | (with_reducible exact Below.refl _ _) | (with_reducible assumption) | (with_reducible refine Below.drew ?_) | (with_reducible refine below_drewN ?_ _) | ((with_reducible refine Below.alloc ?_ ?_ _); rotate_left; focus (go_size; done)) | ((with_reducible refine Below.setCell ?_ ?_ _); rotate_left; focus (go_size; done)) | ((with_reducible refine Below.trans ?_ (Below.mono (by with_reducible assumption) ?_)); rotate_left; focus (go_size; done))))⟩
  · cases h2 : formB c d
    · have e1 : underR a b c d = false := by simp [underR, h2]
      have e2 : err2 a b c d = 2 := by simp [err2, h2]
      rw [e1, e2]
      clear e1 e2
      go_enter Try.func12, Try.ntmps12
      go_wp2_with ((go_at_call 7; with_reducible refine (rform_any _ _ _).mono ?_); rintro _ w1 ⟨rfl, hb1⟩; have hb1s := hb1.size; (try simp only [World.size_alloc, World.size_setCell, World.size_drew] at hb1s); obtain ⟨hb1c, hb1f⟩ := bcell hb1; (try have : w.heap.size < w1.heap.size := by omega); (try have : w.heap.size + 1 < w1.heap.size := by omega); (try have : w.heap.size + 1 + 1 < w1.heap.size := by omega); (try have : w.heap.size + 1 + 1 + 1 < w1.heap.size := by omega))
      go_ret2
      exact ⟨rfl, by (repeat' (first | (with_reducible exact Below.refl _ _) | (with_reducible assumption) | (with_reducible refine Below.drew ?_) | (with_reducible refine below_drewN ?_ _) | ((with_reducible refine Below.alloc ?_ ?_ _); rotate_left; focus (go_size; done)) | ((with_reducible refine Below.setCell ?_ ?_ _); rotate_left; focus (go_size; done)) | ((with_reducible refine Below.trans ?_ (Below.mono (by with_reducible assumption) ?_)); rotate_left; focus (go_size; done))))⟩
    · have e1 : underR a b c d = refU a b c d := by rw [refU_under a b c d h1 h2]; simp [underR, h1, h2]
      have e2 : err2 a b c d = 0 := by simp [err2, h1, h2]
      rw [e1, e2]
      have HU := Lib.hid (fun W => runder_any a b c d h1 W)
      clear e1 e2
      go_enter Try.func12, Try.ntmps12
      go_wp2_with (first
        | ((go_at_call 7; with_reducible refine (rform_any _ _ _).mono ?_); rintro _ w1 ⟨rfl, hb1⟩; have hb1s := hb1.size; (try simp only [World.size_alloc, World.size_setCell, World.size_drew] at hb1s); obtain ⟨hb1c, hb1f⟩ := bcell hb1; (try have : w.heap.size < w1.heap.size := by omega); (try have : w.heap.size + 1 < w1.heap.size := by omega); (try have : w.heap.size + 1 + 1 < w1.heap.size := by omega); (try have : w.heap.size + 1 + 1 + 1 < w1.heap.size := by omega))
        | ((go_at_call 23; with_reducible refine (HU.out _).mono ?_); rintro _ w2 ⟨rfl, hb2⟩; have hb2s := hb2.size; (try simp only [World.size_alloc, World.size_setCell, World.size_drew] at hb2s); obtain ⟨hb2c, hb2f⟩ := bcell hb2; (try have : w.heap.size < w2.heap.size := by omega); (try have : w.heap.size + 1 < w2.heap.size := by omega); (try have : w.heap.size + 1 + 1 < w2.heap.size := by omega); (try have : w.heap.size + 1 + 1 + 1 < w2.heap.size := by omega)))
      go_ret2
      exact ⟨rfl, by (repeat' (first | (with_reducible exact Below.refl _ _) | (with_reducible assumption) | (with_reducible refine Below.drew ?_) | (with_reducible refine below_drewN ?_ _) | ((with_reducible refine Below.alloc ?_ ?_ _); rotate_left; focus (go_size; done)) | ((with_reducible refine Below.setCell ?_ ?_ _); rotate_left; focus (go_size; done)) | ((with_reducible refine Below.trans ?_ (Below.mono (by with_reducible assumption) ?_)); rotate_left; focus (go_size; done))))⟩
set_option maxHeartbeats 400000 in
theorem punder_any (a b c d : Int) (w : World) : Calls Try.prog 13 #[.agg #[.int .i64 a, .int .i64 b], .agg #[.int .i64 c, .int .i64 d]] w fun e w' => e = .returned (.tuple #[.bool (underR a b c d), .int .i64 (err2 a b c d)]) ∧ Below w.heap.size w w' := by
  cases h1 : formB a b
  · have e1 : underR a b c d = false := by simp [underR, h1]
    have e2 : err2 a b c d = 2 := by simp [err2, h1]
    rw [e1, e2]
    clear e1 e2
    go_enter Try.func13, Try.ntmps13
    go_wp2_with ((go_at_call 6; with_reducible refine (form_any _ _ _).mono ?_); rintro _ w1 ⟨rfl, hb1⟩; have hb1s := hb1.size; (try simp only [World.size_alloc, World.size_setCell, World.size_drew] at hb1s); obtain ⟨hb1c, hb1f⟩ := bcell hb1; (try have : w.heap.size < w1.heap.size := by omega); (try have : w.heap.size + 1 < w1.heap.size := by omega); (try have : w.heap.size + 1 + 1 < w1.heap.size := by omega); (try have : w.heap.size + 1 + 1 + 1 < w1.heap.size := by omega))
    go_ret2
    exact ⟨rfl, by (repeat' (first | (with_reducible exact Below.refl _ _) | (with_reducible assumption) | (with_reducible refine Below.drew ?_) | (with_reducible refine below_drewN ?_ _) | ((with_reducible refine Below.alloc ?_ ?_ _); rotate_left; focus (go_size; done)) | ((with_reducible refine Below.setCell ?_ ?_ _); rotate_left; focus (go_size; done)) | ((with_reducible refine Below.trans ?_ (Below.mono (by with_reducible assumption) ?_)); rotate_left; focus (go_size; done))))⟩
  · cases h2 : formB c d
    · have e1 : underR a b c d = false := by simp [underR, h2]
      have e2 : err2 a b c d = 2 := by simp [err2, h2]
      rw [e1, e2]
      clear e1 e2
      go_enter Try.func13, Try.ntmps13
      go_wp2_with ((go_at_call 6; with_reducible refine (form_any _ _ _).mono ?_); rintro _ w1 ⟨rfl, hb1⟩; have hb1s := hb1.size; (try simp only [World.size_alloc, World.size_setCell, World.size_drew] at hb1s); obtain ⟨hb1c, hb1f⟩ := bcell hb1; (try have : w.heap.size < w1.heap.size := by omega); (try have : w.heap.size + 1 < w1.heap.size := by omega); (try have : w.heap.size + 1 + 1 < w1.heap.size := by omega); (try have : w.heap.size + 1 + 1 + 1 < w1.heap.size := by omega))
      go_ret2
      exact ⟨rfl, by (repeat' (first | (with_reducible exact Below.refl _ _) | (with_reducible assumption) | (with_reducible refine Below.drew ?_) | (with_reducible refine below_drewN ?_ _) | ((with_reducible refine Below.alloc ?_ ?_ _); rotate_left; focus (go_size; done)) | ((with_reducible refine Below.setCell ?_ ?_ _); rotate_left; focus (go_size; done)) | ((with_reducible refine Below.trans ?_ (Below.mono (by with_reducible assumption) ?_)); rotate_left; focus (go_size; done))))⟩
    · have e1 : underR a b c d = underB a b c d := by simp [underR, h1, h2]
      have e2 : err2 a b c d = 0 := by simp [err2, h1, h2]
      rw [e1, e2]
      clear e1 e2
      go_enter Try.func13, Try.ntmps13
      go_wp2_with (first
        | ((go_at_call 6; with_reducible refine (form_any _ _ _).mono ?_); rintro _ w1 ⟨rfl, hb1⟩; have hb1s := hb1.size; (try simp only [World.size_alloc, World.size_setCell, World.size_drew] at hb1s); obtain ⟨hb1c, hb1f⟩ := bcell hb1; (try have : w.heap.size < w1.heap.size := by omega); (try have : w.heap.size + 1 < w1.heap.size := by omega); (try have : w.heap.size + 1 + 1 < w1.heap.size := by omega); (try have : w.heap.size + 1 + 1 + 1 < w1.heap.size := by omega))
        | ((go_at_call 24; with_reducible refine (under_any _ _ _ _ _).mono ?_); rintro _ w2 ⟨rfl, hb2⟩; have hb2s := hb2.size; (try simp only [World.size_alloc, World.size_setCell, World.size_drew] at hb2s); obtain ⟨hb2c, hb2f⟩ := bcell hb2; (try have : w.heap.size < w2.heap.size := by omega); (try have : w.heap.size + 1 < w2.heap.size := by omega); (try have : w.heap.size + 1 + 1 < w2.heap.size := by omega); (try have : w.heap.size + 1 + 1 + 1 < w2.heap.size := by omega)))
      go_ret2
      exact ⟨rfl, by (repeat' (first | (with_reducible exact Below.refl _ _) | (with_reducible assumption) | (with_reducible refine Below.drew ?_) | (with_reducible refine below_drewN ?_ _) | ((with_reducible refine Below.alloc ?_ ?_ _); rotate_left; focus (go_size; done)) | ((with_reducible refine Below.setCell ?_ ?_ _); rotate_left; focus (go_size; done)) | ((with_reducible refine Below.trans ?_ (Below.mono (by with_reducible assumption) ?_)); rotate_left; focus (go_size; done))))⟩
set_option maxHeartbeats 400000 in
theorem djoin_any (a b c d : Int) (w : World) : Calls Try.prog 14 #[.agg #[.int .i64 a, .int .i64 b], .agg #[.int .i64 c, .int .i64 d]] w fun e w' => e = .returned (.tuple #[.agg #[.int .i64 (joinR a b c d).1, .int .i64 (joinR a b c d).2], .int .i64 (err2 a b c d)]) ∧ Below w.heap.size w w' := by
  cases h1 : formB a b
  · have e1 : joinR a b c d = (0, 0) := by simp [joinR, h1]
    have e2 : err2 a b c d = 2 := by simp [err2, h1]
    rw [e1, e2]
    clear e1 e2
    go_enter Try.func14, Try.ntmps14
    go_wp2_with ((go_at_call 7; with_reducible refine (rform_any _ _ _).mono ?_); rintro _ w1 ⟨rfl, hb1⟩; have hb1s := hb1.size; (try simp only [World.size_alloc, World.size_setCell, World.size_drew] at hb1s); obtain ⟨hb1c, hb1f⟩ := bcell hb1; (try have : w.heap.size < w1.heap.size := by omega); (try have : w.heap.size + 1 < w1.heap.size := by omega); (try have : w.heap.size + 1 + 1 < w1.heap.size := by omega); (try have : w.heap.size + 1 + 1 + 1 < w1.heap.size := by omega))
    refine bodyPost_ret (by simp [results, Try.results14, go_sem, *]; try rfl) rfl ?_
    exact ⟨rfl, by (repeat' (first | (with_reducible exact Below.refl _ _) | (with_reducible assumption) | (with_reducible refine Below.drew ?_) | (with_reducible refine below_drewN ?_ _) | ((with_reducible refine Below.alloc ?_ ?_ _); rotate_left; focus (go_size; done)) | ((with_reducible refine Below.setCell ?_ ?_ _); rotate_left; focus (go_size; done)) | ((with_reducible refine Below.trans ?_ (Below.mono (by with_reducible assumption) ?_)); rotate_left; focus (go_size; done))))⟩
  · cases h2 : formB c d
    · have e1 : joinR a b c d = (0, 0) := by simp [joinR, h2]
      have e2 : err2 a b c d = 2 := by simp [err2, h2]
      rw [e1, e2]
      clear e1 e2
      go_enter Try.func14, Try.ntmps14
      go_wp2_with ((go_at_call 7; with_reducible refine (rform_any _ _ _).mono ?_); rintro _ w1 ⟨rfl, hb1⟩; have hb1s := hb1.size; (try simp only [World.size_alloc, World.size_setCell, World.size_drew] at hb1s); obtain ⟨hb1c, hb1f⟩ := bcell hb1; (try have : w.heap.size < w1.heap.size := by omega); (try have : w.heap.size + 1 < w1.heap.size := by omega); (try have : w.heap.size + 1 + 1 < w1.heap.size := by omega); (try have : w.heap.size + 1 + 1 + 1 < w1.heap.size := by omega))
      refine bodyPost_ret (by simp [results, Try.results14, go_sem, *]; try rfl) rfl ?_
      exact ⟨rfl, by (repeat' (first | (with_reducible exact Below.refl _ _) | (with_reducible assumption) | (with_reducible refine Below.drew ?_) | (with_reducible refine below_drewN ?_ _) | ((with_reducible refine Below.alloc ?_ ?_ _); rotate_left; focus (go_size; done)) | ((with_reducible refine Below.setCell ?_ ?_ _); rotate_left; focus (go_size; done)) | ((with_reducible refine Below.trans ?_ (Below.mono (by with_reducible assumption) ?_)); rotate_left; focus (go_size; done))))⟩
    · have e1 : joinR a b c d = joinT (a, b) (c, d) 10 := by rw [join_eq a b c d h1 h2]; simp [joinR, h1, h2]
      have e2 : err2 a b c d = 0 := by simp [err2, h1, h2]
      rw [e1, e2]
      have HU := Lib.hid (fun W => rjoin_any a b c d h1 h2 W)
      generalize joinT (a, b) (c, d) 10 = q at *
      clear e1 e2
      go_enter Try.func14, Try.ntmps14
      go_wp2_with (first
        | ((go_at_call 7; with_reducible refine (rform_any _ _ _).mono ?_); rintro _ w1 ⟨rfl, hb1⟩; have hb1s := hb1.size; (try simp only [World.size_alloc, World.size_setCell, World.size_drew] at hb1s); obtain ⟨hb1c, hb1f⟩ := bcell hb1; (try have : w.heap.size < w1.heap.size := by omega); (try have : w.heap.size + 1 < w1.heap.size := by omega); (try have : w.heap.size + 1 + 1 < w1.heap.size := by omega); (try have : w.heap.size + 1 + 1 + 1 < w1.heap.size := by omega))
        | ((go_at_call 25; with_reducible refine (HU.out _).mono ?_); rintro _ w2 ⟨rfl, hb2⟩; have hb2s := hb2.size; (try simp only [World.size_alloc, World.size_setCell, World.size_drew] at hb2s); obtain ⟨hb2c, hb2f⟩ := bcell hb2; (try have : w.heap.size < w2.heap.size := by omega); (try have : w.heap.size + 1 < w2.heap.size := by omega); (try have : w.heap.size + 1 + 1 < w2.heap.size := by omega); (try have : w.heap.size + 1 + 1 + 1 < w2.heap.size := by omega)))
      refine bodyPost_ret (by simp [results, Try.results14, go_sem, *]; try rfl) rfl ?_
      exact ⟨rfl, by (repeat' (first | (with_reducible exact Below.refl _ _) | (with_reducible assumption) | (with_reducible refine Below.drew ?_) | (with_reducible refine below_drewN ?_ _) | ((with_reducible refine Below.alloc ?_ ?_ _); rotate_left; focus (go_size; done)) | ((with_reducible refine Below.setCell ?_ ?_ _); rotate_left; focus (go_size; done)) | ((with_reducible refine Below.trans ?_ (Below.mono (by with_reducible assumption) ?_)); rotate_left; focus (go_size; done))))⟩
set_option maxHeartbeats 1000000 in
theorem pjoin_any (a b c d : Int) (w : World) : Calls Try.prog 15 #[.agg #[.int .i64 a, .int .i64 b], .agg #[.int .i64 c, .int .i64 d]] w fun e w' => e = .returned (.tuple #[.agg #[.int .i64 (joinR a b c d).1, .int .i64 (joinR a b c d).2], .int .i64 (err2 a b c d)]) ∧ Below w.heap.size w w' := by
  cases h1 : formB a b
  · have e1 : joinR a b c d = (0, 0) := by simp [joinR, h1]
    have e2 : err2 a b c d = 2 := by simp [err2, h1]
    rw [e1, e2]
    clear e1 e2
    go_enter Try.func15, Try.ntmps15
    go_wp2_with ((go_at_call 6; with_reducible refine (form_any _ _ _).mono ?_); rintro _ w1 ⟨rfl, hb1⟩; have hb1s := hb1.size; (try simp only [World.size_alloc, World.size_setCell, World.size_drew] at hb1s); obtain ⟨hb1c, hb1f⟩ := bcell hb1; (try have : w.heap.size < w1.heap.size := by omega); (try have : w.heap.size + 1 < w1.heap.size := by omega); (try have : w.heap.size + 1 + 1 < w1.heap.size := by omega); (try have : w.heap.size + 1 + 1 + 1 < w1.heap.size := by omega))
    refine bodyPost_ret (by simp [results, Try.results15, go_sem, *]; try rfl) rfl ?_
    exact ⟨rfl, by (repeat' (first | (with_reducible exact Below.refl _ _) | (with_reducible assumption) | (with_reducible refine Below.drew ?_) | (with_reducible refine below_drewN ?_ _) | ((with_reducible refine Below.alloc ?_ ?_ _); rotate_left; focus (go_size; done)) | ((with_reducible refine Below.setCell ?_ ?_ _); rotate_left; focus (go_size; done)) | ((with_reducible refine Below.trans ?_ (Below.mono (by with_reducible assumption) ?_)); rotate_left; focus (go_size; done))))⟩
  · cases h2 : formB c d
    · have e1 : joinR a b c d = (0, 0) := by simp [joinR, h2]
      have e2 : err2 a b c d = 2 := by simp [err2, h2]
      rw [e1, e2]
      clear e1 e2
      go_enter Try.func15, Try.ntmps15
      go_wp2_with ((go_at_call 6; with_reducible refine (form_any _ _ _).mono ?_); rintro _ w1 ⟨rfl, hb1⟩; have hb1s := hb1.size; (try simp only [World.size_alloc, World.size_setCell, World.size_drew] at hb1s); obtain ⟨hb1c, hb1f⟩ := bcell hb1; (try have : w.heap.size < w1.heap.size := by omega); (try have : w.heap.size + 1 < w1.heap.size := by omega); (try have : w.heap.size + 1 + 1 < w1.heap.size := by omega); (try have : w.heap.size + 1 + 1 + 1 < w1.heap.size := by omega))
      refine bodyPost_ret (by simp [results, Try.results15, go_sem, *]; try rfl) rfl ?_
      exact ⟨rfl, by (repeat' (first | (with_reducible exact Below.refl _ _) | (with_reducible assumption) | (with_reducible refine Below.drew ?_) | (with_reducible refine below_drewN ?_ _) | ((with_reducible refine Below.alloc ?_ ?_ _); rotate_left; focus (go_size; done)) | ((with_reducible refine Below.setCell ?_ ?_ _); rotate_left; focus (go_size; done)) | ((with_reducible refine Below.trans ?_ (Below.mono (by with_reducible assumption) ?_)); rotate_left; focus (go_size; done))))⟩
    · have e2 : err2 a b c d = 0 := by simp [err2, h1, h2]
      have e1 : joinR a b c d = joinP (a, b) (c, d) := by simp [joinR, h1, h2]
      rw [e1, e2]
      unfold joinP
      dsimp only
      clear e1 e2
      cases h3 : underB a b c d
      · cases h4 : underB c d a b
        · by_cases h5 : a = 5 ∧ c = 5
          · rw [if_neg (by simp), if_neg (by simp), if_pos h5]
            have g1 : (a == 5) = true := by simp [h5.1]
            have g2 : (c == 5) = true := by simp [h5.2]
            have H5 := Lib.hid h5
            clear h5
            go_enter Try.func15, Try.ntmps15
            go_wp2_with (first
              | ((go_at_call 6; with_reducible refine (form_any _ _ _).mono ?_); rintro _ w1 ⟨rfl, hb1⟩; have hb1s := hb1.size; (try simp only [World.size_alloc, World.size_setCell, World.size_drew] at hb1s); obtain ⟨hb1c, hb1f⟩ := bcell hb1; (try have : w.heap.size < w1.heap.size := by omega); (try have : w.heap.size + 1 < w1.heap.size := by omega); (try have : w.heap.size + 1 + 1 < w1.heap.size := by omega); (try have : w.heap.size + 1 + 1 + 1 < w1.heap.size := by omega))
              | ((go_at_call 24; with_reducible refine (under_any _ _ _ _ _).mono ?_); rintro _ w2 ⟨rfl, hb2⟩; have hb2s := hb2.size; (try simp only [World.size_alloc, World.size_setCell, World.size_drew] at hb2s); obtain ⟨hb2c, hb2f⟩ := bcell hb2; (try have : w.heap.size < w2.heap.size := by omega); (try have : w.heap.size + 1 < w2.heap.size := by omega); (try have : w.heap.size + 1 + 1 < w2.heap.size := by omega); (try have : w.heap.size + 1 + 1 + 1 < w2.heap.size := by omega)))
            refine bodyPost_ret (by simp [results, Try.results15, go_sem, *]; try rfl) rfl ?_
            exact ⟨rfl, by (repeat' (first | (with_reducible exact Below.refl _ _) | (with_reducible assumption) | (with_reducible refine Below.drew ?_) | (with_reducible refine below_drewN ?_ _) | ((with_reducible refine Below.alloc ?_ ?_ _); rotate_left; focus (go_size; done)) | ((with_reducible refine Below.setCell ?_ ?_ _); rotate_left; focus (go_size; done)) | ((with_reducible refine Below.trans ?_ (Below.mono (by with_reducible assumption) ?_)); rotate_left; focus (go_size; done))))⟩
          · rw [if_neg (by simp), if_neg (by simp), if_neg h5]
            have H5 := Lib.hid h5
            clear h5
            go_enter Try.func15, Try.ntmps15
            go_wp2_with (first
              | ((go_at_call 6; with_reducible refine (form_any _ _ _).mono ?_); rintro _ w1 ⟨rfl, hb1⟩; have hb1s := hb1.size; (try simp only [World.size_alloc, World.size_setCell, World.size_drew] at hb1s); obtain ⟨hb1c, hb1f⟩ := bcell hb1; (try have : w.heap.size < w1.heap.size := by omega); (try have : w.heap.size + 1 < w1.heap.size := by omega); (try have : w.heap.size + 1 + 1 < w1.heap.size := by omega); (try have : w.heap.size + 1 + 1 + 1 < w1.heap.size := by omega))
              | ((go_at_call 24; with_reducible refine (under_any _ _ _ _ _).mono ?_); rintro _ w2 ⟨rfl, hb2⟩; have hb2s := hb2.size; (try simp only [World.size_alloc, World.size_setCell, World.size_drew] at hb2s); obtain ⟨hb2c, hb2f⟩ := bcell hb2; (try have : w.heap.size < w2.heap.size := by omega); (try have : w.heap.size + 1 < w2.heap.size := by omega); (try have : w.heap.size + 1 + 1 < w2.heap.size := by omega); (try have : w.heap.size + 1 + 1 + 1 < w2.heap.size := by omega)))
            all_goals first
              | (exfalso; have := H5.out; simp_all; done)
              | (refine bodyPost_ret (by simp [results, Try.results15, go_sem, *]; try rfl) rfl ?_
                 exact ⟨rfl, by (repeat' (first | (with_reducible exact Below.refl _ _) | (with_reducible assumption) | (with_reducible refine Below.drew ?_) | (with_reducible refine below_drewN ?_ _) | ((with_reducible refine Below.alloc ?_ ?_ _); rotate_left; focus (go_size; done)) | ((with_reducible refine Below.setCell ?_ ?_ _); rotate_left; focus (go_size; done)) | ((with_reducible refine Below.trans ?_ (Below.mono (by with_reducible assumption) ?_)); rotate_left; focus (go_size; done))))⟩)
        · rw [if_neg (by simp), if_pos rfl]
          go_enter Try.func15, Try.ntmps15
          go_wp2_with (first
            | ((go_at_call 6; with_reducible refine (form_any _ _ _).mono ?_); rintro _ w1 ⟨rfl, hb1⟩; have hb1s := hb1.size; (try simp only [World.size_alloc, World.size_setCell, World.size_drew] at hb1s); obtain ⟨hb1c, hb1f⟩ := bcell hb1; (try have : w.heap.size < w1.heap.size := by omega); (try have : w.heap.size + 1 < w1.heap.size := by omega); (try have : w.heap.size + 1 + 1 < w1.heap.size := by omega); (try have : w.heap.size + 1 + 1 + 1 < w1.heap.size := by omega))
            | ((go_at_call 24; with_reducible refine (under_any _ _ _ _ _).mono ?_); rintro _ w2 ⟨rfl, hb2⟩; have hb2s := hb2.size; (try simp only [World.size_alloc, World.size_setCell, World.size_drew] at hb2s); obtain ⟨hb2c, hb2f⟩ := bcell hb2; (try have : w.heap.size < w2.heap.size := by omega); (try have : w.heap.size + 1 < w2.heap.size := by omega); (try have : w.heap.size + 1 + 1 < w2.heap.size := by omega); (try have : w.heap.size + 1 + 1 + 1 < w2.heap.size := by omega)))
          refine bodyPost_ret (by simp [results, Try.results15, go_sem, *]; try rfl) rfl ?_
          exact ⟨rfl, by (repeat' (first | (with_reducible exact Below.refl _ _) | (with_reducible assumption) | (with_reducible refine Below.drew ?_) | (with_reducible refine below_drewN ?_ _) | ((with_reducible refine Below.alloc ?_ ?_ _); rotate_left; focus (go_size; done)) | ((with_reducible refine Below.setCell ?_ ?_ _); rotate_left; focus (go_size; done)) | ((with_reducible refine Below.trans ?_ (Below.mono (by with_reducible assumption) ?_)); rotate_left; focus (go_size; done))))⟩
      · rw [if_pos rfl]
        go_enter Try.func15, Try.ntmps15
        go_wp2_with (first
          | ((go_at_call 6; with_reducible refine (form_any _ _ _).mono ?_); rintro _ w1 ⟨rfl, hb1⟩; have hb1s := hb1.size; (try simp only [World.size_alloc, World.size_setCell, World.size_drew] at hb1s); obtain ⟨hb1c, hb1f⟩ := bcell hb1; (try have : w.heap.size < w1.heap.size := by omega); (try have : w.heap.size + 1 < w1.heap.size := by omega); (try have : w.heap.size + 1 + 1 < w1.heap.size := by omega); (try have : w.heap.size + 1 + 1 + 1 < w1.heap.size := by omega))
          | ((go_at_call 24; with_reducible refine (under_any _ _ _ _ _).mono ?_); rintro _ w2 ⟨rfl, hb2⟩; have hb2s := hb2.size; (try simp only [World.size_alloc, World.size_setCell, World.size_drew] at hb2s); obtain ⟨hb2c, hb2f⟩ := bcell hb2; (try have : w.heap.size < w2.heap.size := by omega); (try have : w.heap.size + 1 < w2.heap.size := by omega); (try have : w.heap.size + 1 + 1 < w2.heap.size := by omega); (try have : w.heap.size + 1 + 1 + 1 < w2.heap.size := by omega)))
        refine bodyPost_ret (by simp [results, Try.results15, go_sem, *]; try rfl) rfl ?_
        exact ⟨rfl, by (repeat' (first | (with_reducible exact Below.refl _ _) | (with_reducible assumption) | (with_reducible refine Below.drew ?_) | (with_reducible refine below_drewN ?_ _) | ((with_reducible refine Below.alloc ?_ ?_ _); rotate_left; focus (go_size; done)) | ((with_reducible refine Below.setCell ?_ ?_ _); rotate_left; focus (go_size; done)) | ((with_reducible refine Below.trans ?_ (Below.mono (by with_reducible assumption) ?_)); rotate_left; focus (go_size; done))))⟩
end Go.Proofs.Ytmfkhmlpikdmeaa
