/- The reference: times a power of ten; the sum. -/
import Derived.Test.YthkgjodidkpaeaaRe
set_option linter.unusedSimpArgs false
set_option linter.unusedVariables false
namespace Go.Proofs.Ythkgjodidkpaeaa
open Go.RowKit

theorem zrow_own (w : World) (n : Nat) (hn : n ≤ 1000000) : (w.alloc (.cells (zrow n).toArray 3)).ownsRow w.heap.size 3 1 (.slice (some ⟨w.heap.size, 0, none⟩) n n) (List.replicate n (0 : Int)).length ((List.replicate n (0 : Int)).map (Value.int .i64)) := by
  refine ⟨by simp, .inr ⟨w.heap.size, n, (zrow n).toArray, by simp, Nat.le_refl _, heap_alloc_new w _, by simp, by unfold maxLen; omega, by simp [zrow], by simp [zrow]⟩⟩
theorem IsDg.shift {l : List Int} {n : Nat} (h : IsDg l n) (hne : l ≠ []) (k : Nat) : IsDg (List.replicate k 0 ++ l) (n * 10 ^ k) := by
  refine ⟨(Digs.zeros k).append h.1, ?_, ?_⟩
  · have ht := h.2.1
    obtain ⟨i, x, rfl⟩ : ∃ i x, l = i ++ [x] := ⟨l.dropLast, l.getLast hne, (List.dropLast_concat_getLast hne).symm⟩
    unfold Top at *
    rw [← List.append_assoc]
    simpa using ht
  · rw [dval_append, dval_replicate, List.length_replicate, h.2.2, Int.zero_add, Int.natCast_mul, Int.natCast_pow, Int.mul_comm]; rfl
set_option maxHeartbeats 1000000 in
theorem shift_any (N k : Nat) (hk : k ≤ 1000) (v : Value) (w : World) (hv : Dg w v N) (hN : Small N) :
    Calls Try.prog 91 #[v, .int .i64 k] w (RetDg (N * 10 ^ k) w) := by
  obtain ⟨xs, ⟨A, c, rfl, hc, hs⟩, hd⟩ := hv
  have hlen := pow_big hN hd
  by_cases hx : xs = []
  · subst hx
    have hz : N = 0 := hd.zero_iff.1 rfl
    subst hz
    go_enter Try.func91, Try.ntmps91
    go_wp2_with fail
    go_ret
    exact ⟨_, rfl, ⟨[], ⟨none, 0, rfl, Nat.le_refl _, fun h => absurd rfl h⟩, by rw [Nat.zero_mul]; exact IsDg.nil⟩, by (repeat' (first | (with_reducible exact Below.refl _ _) | (with_reducible assumption) | (with_reducible refine Below.drew ?_) | (with_reducible refine below_drewN ?_ _) | ((with_reducible refine Below.alloc ?_ ?_ _); rotate_left; focus (go_size; done)) | ((with_reducible refine Below.setCell ?_ ?_ _); rotate_left; focus (go_size; done)) | ((with_reducible refine Below.trans ?_ (Below.mono (by with_reducible assumption) ?_)); rotate_left; focus (go_size; done))))⟩
  · have hpos : 0 < xs.length := List.length_pos_iff.2 hx
    have g1 : ((xs.length : Int) == 0) = false := by simp; exact hx
    have HD := Lib.hid (hd.shift hx k)
    have HS := Lib.hid hs
    have hmk := fun W => make_ints k (by omega) W
    have k0 : (0 : Int) ≤ (k : Int) := by omega
    clear hd hs hN hx
    go_enter Try.func91, Try.ntmps91
    go_wp2_with (at_builtin; refine wpList_join rfl (.tmp 9) (.tmp 10) rfl w.heap.size (.slice (some ⟨w.heap.size, 0, none⟩) k k) (List.replicate k 0) rfl (zrow_own w k (by omega)) A c xs rfl ?hs ?hl ?hb ?_; rotate_left 3; intro v1 w1 hown1 hg1)
    case hs => exact HS.out.below (by (repeat' (first | (with_reducible exact Below.refl _ _) | (with_reducible assumption) | (with_reducible refine Below.drew ?_) | (with_reducible refine below_drewN ?_ _) | ((with_reducible refine Below.alloc ?_ ?_ _); rotate_left; focus (go_size; done)) | ((with_reducible refine Below.setCell ?_ ?_ _); rotate_left; focus (go_size; done)) | ((with_reducible refine Below.trans ?_ (Below.mono (by with_reducible assumption) ?_)); rotate_left; focus (go_size; done)))))
    case hl => rw [List.length_replicate]; omega
    case hb => go_size
    go_ret
    exact ⟨v1, rfl, ⟨_, IsSl.of_own hown1, HD.out⟩, below_push ((Below.refl _ _).alloc (Nat.le_refl _) _) (zrow_own w k (by omega)) hg1 (by go_size)⟩

theorem dval_take_any (l : List Int) (n : Nat) : dval (l.take (n + 1)) = dval (l.take n) + 10 ^ n * l.getD n 0 := by
  by_cases h : n < l.length
  · exact dval_take_succ l n h
  · rw [List.take_of_length_le (by omega), List.take_of_length_le (by omega), List.getD_eq_getElem?_getD, List.getElem?_eq_none (by omega)]
    simp
theorem getD_past (l : List Int) (n : Nat) (h : l.length ≤ n) : l.getD n 0 = 0 := by
  rw [List.getD_eq_getElem?_getD, List.getElem?_eq_none h]; rfl
theorem plus_step (ds : List Int) (cc s : Int) (n : Nat) (xs ys : List Int) (hv : dval ds + 10 ^ n * cc = dval (xs.take n) + dval (ys.take n)) (hs : s = cc + xs.getD n 0 + ys.getD n 0) (hl : ds.length = n) :
    dval (ds ++ [s % 10]) + 10 ^ (n + 1) * (s / 10) = dval (xs.take (n + 1)) + dval (ys.take (n + 1)) := by
  rw [dval_snoc, hl, dval_take_any, dval_take_any, Int.pow_succ]
  have e1 := carry_step (10 ^ n) s
  have e2 : (10 : Int) ^ n * s = 10 ^ n * cc + 10 ^ n * xs.getD n 0 + 10 ^ n * ys.getD n 0 := by rw [hs, Int.mul_add, Int.mul_add]
  omega
set_option maxHeartbeats 2000000 in
theorem plus_any (N M : Nat) (u v : Value) (w : World) (hu : Dg w u N) (hv : Dg w v M) (hN : Small N) (hM : Small M) :
    Calls Try.prog 71 #[u, v] w (RetDg (N + M) w) := by
  obtain ⟨xs, ⟨A, c, rfl, hc, hs⟩, hd⟩ := hu
  obtain ⟨ys, ⟨B, d, rfl, hc2, hs2⟩, hd2⟩ := hv
  have hlx := pow_big hN hd
  have hly := pow_big hM hd2
  have HX := Lib.hid hd
  have HY := Lib.hid hd2
  have HS := Lib.hid hs
  have HT := Lib.hid hs2
  obtain ⟨m, hm1, hm2, hm3⟩ : ∃ m, xs.length ≤ m ∧ ys.length ≤ m ∧ m ≤ 1000 := ⟨max xs.length ys.length, Nat.le_max_left _ _, Nat.le_max_right _ _, Nat.max_le.2 ⟨hlx, hly⟩⟩
  obtain ⟨m', hm4⟩ : ∃ m', m' = max xs.length ys.length := ⟨_, rfl⟩
  clear hd hd2 hs hs2 hN hM m hm1 hm2 hm3
  have hm1 : xs.length ≤ m' := by rw [hm4]; exact Nat.le_max_left _ _
  have hm2 : ys.length ≤ m' := by rw [hm4]; exact Nat.le_max_right _ _
  have hm3 : m' ≤ 1000 := by rw [hm4]; exact Nat.max_le.2 ⟨hlx, hly⟩
  clear hm4
  go_enter Try.func71, Try.ntmps71
  go_wp2_with fail
  go_loopg [5, 6, 7] (m' + 1) (fun k out cv i wr => ∃ (n : Nat) (cc : Int) (ds : List Int), k + n = m' + 1 ∧ i = .int .i64 n ∧ cv = .int .i64 cc ∧ 0 ≤ cc ∧ cc ≤ 1 ∧ (n ≤ m' ∨ cc = 0) ∧
    wr.ownsRow w.heap.size 3 1 out ds.length (ds.map (Value.int .i64)) ∧ ds.length = n ∧ Digs ds ∧ dval ds + 10 ^ n * cc = dval (xs.take n) + dval (ys.take n) ∧ Below w.heap.size w wr)
  case atStart =>
    exact ⟨0, 0, [], by omega, rfl, rfl, by decide, by decide, .inl (by omega), World.ownsRow_nil _ _ _ _, rfl, Digs.nil, by simp [dval], Below.refl _ _⟩
  case round =>
    obtain ⟨n, cc, ds, hk, rfl, rfl, hc0, hc1, hnm, hown, hdl, hdd, hval, hbel⟩ := hrel
    have HK := Lib.hid hk
    have HL := Lib.hid hdl
    have HDD := Lib.hid hdd
    have HV := Lib.hid hval
    have HNM := Lib.hid hnm
    have hn : n ≤ m' + 1 := by omega
    have hwr := hbel.size
    clear hk hdl hdd hval hnm
    obtain ⟨p, hp⟩ : ∃ p, p = xs.getD n 0 := ⟨_, rfl⟩
    obtain ⟨q, hq⟩ : ∃ q, q = ys.getD n 0 := ⟨_, rfl⟩
    have hpb := HX.out.get n
    have hqb := HY.out.get n
    rw [← hp] at hpb
    rw [← hq] at hqb
    obtain ⟨p0, p9⟩ := hpb
    obtain ⟨q0, q9⟩ := hqb
    have HA := Lib.hid hp
    have HB := Lib.hid hq
    by_cases h1 : n < xs.length
    · obtain ⟨g, o, rfl, hg, hcell⟩ := HS.out.at_ h1
      have hcella := (hbel.cell (p := ⟨g, o + n, none⟩) hg).trans hcell
      rw [← hp] at hcella
      by_cases h2 : n < ys.length
      · obtain ⟨g2, o2, rfl, hg2, hcell2⟩ := HT.out.at_ h2
        have hcellb := (hbel.cell (p := ⟨g2, o2 + n, none⟩) hg2).trans hcell2
        rw [← hq] at hcellb
        clear hp hq hcell hcell2
        go_wp2_with (at_builtin; refine wpList_push rfl (.tmp 46) (.tmp 49) rfl w.heap.size u5 ds rfl (hown.alloc _) wr.heap.size ((cc + p + q) % 10) rfl ?hc ?hl ?hb ?_; rotate_left 3; intro v1 w1 hown1 hg1)
        case hc => simp [go_sem]
        case hl => have := HL.out; omega
        case hb => go_size
        go_roundg (gk - 1)
        case measure => have := HK.out; omega
        case rel =>
          refine ⟨n + 1, (cc + p + q) / 10, ds ++ [(cc + p + q) % 10], by have := HK.out; omega, by go_num, rfl, by omega, by omega, .inl (by omega), hown1, by rw [List.length_append, HL.out]; rfl, HDD.out.snoc (by omega) (by omega), ?_, below_push (hbel.alloc (by go_size) _) (hown.alloc _) hg1 (by go_size)⟩
          exact plus_step ds cc ((cc + p + q)) n xs ys HV.out (by have h1 := HA.out; have h2 := HB.out; omega) HL.out
      · have HQ : Hid (q = 0) := Lib.hid (by rw [hq]; exact getD_past ys n (by omega))
        clear hp hq hcell
        go_wp2_with (at_builtin; refine wpList_push rfl (.tmp 46) (.tmp 49) rfl w.heap.size u5 ds rfl (hown.alloc _) wr.heap.size ((cc + p) % 10) rfl ?hc ?hl ?hb ?_; rotate_left 3; intro v1 w1 hown1 hg1)
        case hc => simp [go_sem]
        case hl => have := HL.out; omega
        case hb => go_size
        go_roundg (gk - 1)
        case measure => have := HK.out; omega
        case rel =>
          refine ⟨n + 1, (cc + p) / 10, ds ++ [(cc + p) % 10], by have := HK.out; omega, by go_num, rfl, by omega, by omega, .inl (by omega), hown1, by rw [List.length_append, HL.out]; rfl, HDD.out.snoc (by omega) (by omega), ?_, below_push (hbel.alloc (by go_size) _) (hown.alloc _) hg1 (by go_size)⟩
          exact plus_step ds cc ((cc + p)) n xs ys HV.out (by have h1 := HA.out; have h2 := HB.out; have h3 := HQ.out; omega) HL.out
    · have HP : Hid (p = 0) := Lib.hid (by rw [hp]; exact getD_past xs n (by omega))
      by_cases h2 : n < ys.length
      · obtain ⟨g2, o2, rfl, hg2, hcell2⟩ := HT.out.at_ h2
        have hcellb := (hbel.cell (p := ⟨g2, o2 + n, none⟩) hg2).trans hcell2
        rw [← hq] at hcellb
        clear hp hq hcell2
        go_wp2_with (at_builtin; refine wpList_push rfl (.tmp 46) (.tmp 49) rfl w.heap.size u5 ds rfl (hown.alloc _) wr.heap.size ((cc + q) % 10) rfl ?hc ?hl ?hb ?_; rotate_left 3; intro v1 w1 hown1 hg1)
        case hc => simp [go_sem]
        case hl => have := HL.out; omega
        case hb => go_size
        go_roundg (gk - 1)
        case measure => have := HK.out; omega
        case rel =>
          refine ⟨n + 1, (cc + q) / 10, ds ++ [(cc + q) % 10], by have := HK.out; omega, by go_num, rfl, by omega, by omega, .inl (by omega), hown1, by rw [List.length_append, HL.out]; rfl, HDD.out.snoc (by omega) (by omega), ?_, below_push (hbel.alloc (by go_size) _) (hown.alloc _) hg1 (by go_size)⟩
          exact plus_step ds cc ((cc + q)) n xs ys HV.out (by have h1 := HA.out; have h2 := HB.out; have h3 := HP.out; omega) HL.out
      · have HQ : Hid (q = 0) := Lib.hid (by rw [hq]; exact getD_past ys n (by omega))
        clear hp hq
        have hcc : cc = 0 ∨ cc = 1 := by omega
        rcases hcc with rfl | rfl
        · go_wp2_with fail
          refine (cut_any ds _ _ (IsSl.of_own hown) HDD.out (by have := HL.out; omega)).mono ?_
          rintro _ w2 ⟨v2, rfl, hdg, hb2⟩
          have HD := Lib.hid hdg
          clear hdg
          go_wp2_with fail
          go_ret
          refine ⟨v2, rfl, ?_, by (repeat' (first | (with_reducible exact Below.refl _ _) | (with_reducible assumption) | (with_reducible refine Below.drew ?_) | (with_reducible refine below_drewN ?_ _) | ((with_reducible refine Below.alloc ?_ ?_ _); rotate_left; focus (go_size; done)) | ((with_reducible refine Below.setCell ?_ ?_ _); rotate_left; focus (go_size; done)) | ((with_reducible refine Below.trans ?_ (Below.mono (by with_reducible assumption) ?_)); rotate_left; focus (go_size; done))))⟩
          have e := HV.out
          rw [List.take_of_length_le (by omega), List.take_of_length_le (by omega), HX.out.2.2, HY.out.2.2] at e
          have e2 : (dval ds).toNat = N + M := by omega
          rw [← e2]
          exact HD.out
        · have hnm : n = m' ∨ n < m' := by have := HNM.out; omega
          go_wp2_with (at_builtin; refine wpList_push rfl (.tmp 46) (.tmp 49) rfl w.heap.size u5 ds rfl (hown.alloc _) wr.heap.size 1 rfl ?hc ?hl ?hb ?_; rotate_left 3; intro v1 w1 hown1 hg1)
          case hc => simp [go_sem]
          case hl => have := HL.out; omega
          case hb => go_size
          go_roundg (gk - 1)
          case measure => have := HK.out; omega
          case rel =>
            refine ⟨n + 1, 0, ds ++ [1], by have := HK.out; omega, by go_num, rfl, by decide, by decide, .inr rfl, hown1, by rw [List.length_append, HL.out]; rfl, HDD.out.snoc (by decide) (by decide), ?_, below_push (hbel.alloc (by go_size) _) (hown.alloc _) hg1 (by go_size)⟩
            exact plus_step ds 1 1 n xs ys HV.out (by have h1 := HA.out; have h2 := HB.out; have h3 := HQ.out; have h4 := HP.out; omega) HL.out
end Go.Proofs.Ythkgjodidkpaeaa
