/- A number without the noughts at its end, by the document. -/
import Derived.Test.YtnjiibeomailhaaRu
import Derived.Test.YtnjiibeomailhaaTm
import Derived.RegionTactic
set_option linter.unusedSimpArgs false
set_option linter.unusedVariables false
namespace Go.Proofs.Ytnjiibeomailhaa
open Go.RowKit

theorem IsDg.drop_zeros {l : List Int} {N : Nat} (h : IsDg l N) (k : Nat) (hk : k ≤ l.length) (hz : ∀ j, j < k → l.getD j 0 = 0) : IsDg (l.drop k) (N / 10 ^ k) ∧ N = N / 10 ^ k * 10 ^ k := by
  have e := dval_append (l.take k) (l.drop k)
  rw [List.take_append_drop, List.length_take, Nat.min_eq_left hk] at e
  have hz0 : dval (l.take k) = 0 := dval_zeros (fun d hd => by
    obtain ⟨i, hi, rfl⟩ := List.getElem_of_mem hd
    rw [List.length_take] at hi
    rw [List.getElem_take, ← getD_lt _ _ (by omega)]
    exact hz i (by omega))
  rw [hz0, Int.zero_add, h.2.2] at e
  have hb := dval_bd (h.1.drop k)
  obtain ⟨V, hV⟩ : ∃ V : Nat, dval (l.drop k) = (V : Int) := ⟨(dval (l.drop k)).toNat, by omega⟩
  rw [hV] at e
  have e2 : N = 10 ^ k * V := by exact_mod_cast e
  have e3 : N / 10 ^ k = V := by rw [e2, Nat.mul_div_cancel_left _ (Nat.pow_pos (by decide))]
  refine ⟨⟨h.1.drop k, ?_, by rw [hV, e3]⟩, by rw [e3, Nat.mul_comm]; exact e2⟩
  have ht := h.2.1
  unfold Top at *
  by_cases hlt : k < l.length
  · rw [List.getLast?_drop, if_neg (by omega)]; exact ht
  · rw [List.drop_of_length_le (by omega)]; simp
theorem tz_dig {l : List Int} {N T k : Nat} (h : IsDg l N) (hz : IsTz N T k) : k < l.length ∧ (∀ j, j < k → l.getD j 0 = 0) ∧ l.getD k 0 ≠ 0 := by
  have hk : k < l.length := by
    rcases Nat.lt_or_ge k l.length with hk | hk
    · exact hk
    · exfalso
      have h1 := h.lt_of_len hk
      have h2 : 1 ≤ T := by
        rcases Nat.eq_zero_or_pos T with h0 | h0
        · subst h0; exact absurd rfl hz.2
        · exact h0
      have h3 : 10 ^ k ≤ N := by rw [hz.1]; exact Nat.le_mul_of_pos_left _ h2
      omega
  have hd : ∀ j, j < l.length → l.getD j 0 = ((N / 10 ^ j % 10 : Nat) : Int) := fun j hj => by
    rw [dval_digit h.1 j hj, h.2.2, Int.natCast_emod, Int.natCast_ediv, Int.natCast_pow]; rfl
  refine ⟨hk, fun j hj => by rw [hd j (by omega), hz.mod_lt hj]; rfl, ?_⟩
  rw [hd k hk, hz.mod_eq]
  have := hz.2
  omega
theorem sl_drop {w : World} {g o t c : Nat} {xs : List Int} (h : Sl w (some ⟨g, o, none⟩) xs) (ht : t < xs.length) (hc : xs.length ≤ c) : IsSl w (.slice (some ⟨g, o + t, none⟩) (xs.length - t) (c - t)) (xs.drop t) := by
  refine ⟨_, _, by rw [List.length_drop], by rw [List.length_drop]; omega, fun _ => ?_⟩
  obtain ⟨g', o', cs, e, hb, hcs⟩ := h (by intro e; subst e; simp at ht)
  injection e with e
  injection e with e1 e2
  subst e1 e2
  refine ⟨g, o + t, cs, rfl, hb, fun j hj => ?_⟩
  rw [List.length_drop] at hj
  rw [Nat.add_assoc, hcs (t + j) (by omega), getD_lt _ _ (by omega), getD_lt _ _ (by rw [List.length_drop]; omega), List.getElem_drop]
set_option maxHeartbeats 1000000 in
theorem doctrim_zero (w : World) : Calls Try.prog 31 #[.agg #[.int .u64 0, .int .u64 0]] w fun e w' => e = .returned (.tuple #[.agg #[.int .u64 0, .int .u64 0], .int .i64 0]) ∧ Below w.heap.size w w' := by
  have HO := Lib.hid (fun W => of_any 0 (by decide) W)
  rw [wd_zero, wd_zero] at HO
  have HT := Lib.hid (fun W v h => to_any 0 v W h (lt_128_tiny (by decide)).small)
  unfold RetWide at HT
  rw [Nat.zero_mod, wd_zero, wd_zero] at HT
  generalize decide (0 < 2 ^ 128) = fr at *
  go_enter Try.func31, Try.ntmps31
  go_wp2_with fail
  refine (HO.out _).mono ?_
  rintro _ w1 ⟨v1, rfl, d1, hb1⟩; have hb1s := hb1.size; (try simp only [World.size_alloc, World.size_setCell, World.size_drew, World.heap_drewN] at hb1s); obtain ⟨hb1c, hb1f⟩ := bcell hb1; (try have : w.heap.size < w1.heap.size := by omega); (try have : w.heap.size + 1 < w1.heap.size := by omega); (try have : w.heap.size + 1 + 1 < w1.heap.size := by omega); (try have : w.heap.size + 1 + 1 + 1 < w1.heap.size := by omega); have Hd1 := Lib.hid d1; clear d1
  obtain ⟨A, k, c, rfl, hk, hkc⟩ := dg_len Hd1.out
  obtain rfl : k = 0 := hk.2 rfl
  clear hk
  go_wp2_with fail
  refine wp_loop_rounds 1 ?_
  rw [rounds_succ]
  go_wp2_with fail
  refine (HT.out _ _ Hd1.out).mono ?_
  rintro _ w2 ⟨rfl, hb2⟩; have hb2s := hb2.size; (try simp only [World.size_alloc, World.size_setCell, World.size_drew, World.heap_drewN] at hb2s); obtain ⟨hb2c, hb2f⟩ := bcell hb2; (try have : w.heap.size < w2.heap.size := by omega); (try have : w.heap.size + 1 < w2.heap.size := by omega); (try have : w.heap.size + 1 + 1 < w2.heap.size := by omega); (try have : w.heap.size + 1 + 1 + 1 < w2.heap.size := by omega)
  have b1 : Bk w2 (w.heap.size + 1) 27 [.int .u64 0, .int .u64 0] := by (repeat (first | (with_reducible assumption) | ((with_reducible refine Bk.new_ ?_); (first | rfl | (simp only [World.size_alloc, World.size_setCell, World.size_drew, World.heap_drewN]; done))) | (with_reducible refine Bk.alloc ?_ _) | (with_reducible refine Bk.drew ?_) | (with_reducible refine Bk.drewN ?_ _) | ((with_reducible refine Bk.far ?_ ?_ _); rotate_left; focus (simp only []; omega)) | ((with_reducible refine Bk.below ?_ (by with_reducible assumption) ?_); rotate_left; focus (go_size; done))))
  have c0 := b1.cell 0 rfl
  have c1 := b1.cell 1 rfl
  have f0 := b1.frozen 0
  have f1 := b1.frozen 1
  clear b1 hb1c hb2c hb1f hb2f
  go_wp2_with fail
  refine bodyPost_ret (by simp [results, Try.results31, go_sem, *]; try rfl) rfl ?_
  exact ⟨rfl, by (repeat' (first | (with_reducible exact Below.refl _ _) | (with_reducible assumption) | (with_reducible refine Below.drew ?_) | (with_reducible refine below_drewN ?_ _) | ((with_reducible refine Below.alloc ?_ ?_ _); rotate_left; focus (go_size; done)) | ((with_reducible refine Below.setCell ?_ ?_ _); rotate_left; focus (go_size; done)) | ((with_reducible refine Below.trans ?_ (Below.mono (by with_reducible assumption) ?_)); rotate_left; focus (go_size; done))))⟩
set_option maxHeartbeats 2000000 in
theorem doctrim_any (N T k : Nat) (hN : N < 2 ^ 128) (hz : IsTz N T k) (w : World) : Calls Try.prog 31 #[.agg #[.int .u64 (wd N 1), .int .u64 (wd N 0)]] w fun e w' => e = .returned (.tuple #[.agg #[.int .u64 (wd T 1), .int .u64 (wd T 0)], .int .i64 k]) ∧ Below w.heap.size w w' := by
  have HO := Lib.hid (fun W => of_any N hN W)
  have hk38 := hz.k_le hN
  have hT : T < 2 ^ 128 := by
    have h1 := hz.1
    have h2 : T ≤ N := by rw [h1]; exact Nat.le_mul_of_pos_right _ (Nat.pow_pos (by decide))
    omega
  have HT := Lib.hid (fun W v h => to_any T v W h (lt_128_tiny hT).small)
  unfold RetWide at HT
  rw [Nat.mod_eq_of_lt (Nat.lt_trans hT (by decide))] at HT
  generalize decide (T < 2 ^ 128) = fr at *
  have HZ := Far.mk hz
  have HN := Far.mk hN
  clear hN hz hT
  go_enter Try.func31, Try.ntmps31
  go_wp2_with fail
  refine (HO.out _).mono ?_
  rintro _ w1 ⟨v1, rfl, d1, hb1⟩; have hb1s := hb1.size; (try simp only [World.size_alloc, World.size_setCell, World.size_drew, World.heap_drewN] at hb1s); obtain ⟨hb1c, hb1f⟩ := bcell hb1; (try have : w.heap.size < w1.heap.size := by omega); (try have : w.heap.size + 1 < w1.heap.size := by omega); (try have : w.heap.size + 1 + 1 < w1.heap.size := by omega); (try have : w.heap.size + 1 + 1 + 1 < w1.heap.size := by omega); have Hd1 := Lib.hid d1; clear d1
  obtain ⟨xs, ⟨A, c, rfl, hc, hs⟩, hd⟩ := Hd1.out
  obtain ⟨hkl, hz0, hkn⟩ := tz_dig hd HZ.out
  have HD := Lib.hid hd
  have HS := Lib.hid hs
  have HZ0 := Lib.hid hz0
  have hlen : xs.length ≤ 100000 := by
    have := pow_big (lt_128_tiny HN.out).small hd
    omega
  clear hd hs hz0
  go_wp2_with fail
  go_loopg [5] k (fun kk c wr => ∃ t : Nat, kk + t = k ∧ c = .int .i64 t ∧ ∃ nn, wr = w1.drewN nn)
  case atStart => exact ⟨0, by omega, rfl, 0, rfl⟩
  case round =>
    obtain ⟨t, hn, rfl, nn, rfl⟩ := hrel
    have HK := Lib.hid hn
    have ht : t ≤ k := by omega
    obtain ⟨g, o, rfl, hg, hcell⟩ := HS.out.at_ (k := t) (by omega)
    have t1 : (t : Int) < (xs.length : Int) := by omega
    clear hn
    by_cases hlt : t < k
    · rw [HZ0.out t hlt] at hcell
      go_wp2_with fail
      go_roundg (gk - 1)
      case measure => have := HK.out; omega
      case rel => exact ⟨t + 1, by have := HK.out; omega, by go_num, nn, rfl⟩
    · obtain rfl : t = k := by omega
      have hne : (xs.getD t 0 == 0) = false := by simpa using hkn
      obtain ⟨d, hd⟩ : ∃ d, d = xs.getD t 0 := ⟨_, rfl⟩
      rw [← hd] at hcell hne
      clear hd hkn
      have hct : ¬ c = t := by omega
      go_wp2_with fail
      have hsl : IsSl w1 (.slice (some ⟨g, o + t, none⟩) (xs.length - t) (c - t)) (xs.drop t) := sl_drop HS.out hkl hc
      obtain ⟨hdd, hde⟩ := HD.out.drop_zeros t (by omega) HZ0.out
      rw [HZ.out.mod_eq] at hdd
      have HDT : Hid (Dg w1 (.slice (some ⟨g, o + t, none⟩) (xs.length - t) (c - t)) T) := Lib.hid ⟨_, hsl, hdd⟩
      clear hsl hdd hde
      refine (HT.out _ _ (HDT.out.drewN nn)).mono ?_
      rintro _ w2 ⟨rfl, hb2⟩; have hb2s := hb2.size; (try simp only [World.size_alloc, World.size_setCell, World.size_drew, World.heap_drewN] at hb2s); obtain ⟨hb2c, hb2f⟩ := bcell hb2; (try have : w.heap.size < w2.heap.size := by omega); (try have : w.heap.size + 1 < w2.heap.size := by omega); (try have : w.heap.size + 1 + 1 < w2.heap.size := by omega); (try have : w.heap.size + 1 + 1 + 1 < w2.heap.size := by omega)
      have b1 : Bk w2 (w.heap.size + 1) 27 [.int .u64 0, .int .u64 0] := by (repeat (first | (with_reducible assumption) | ((with_reducible refine Bk.new_ ?_); (first | rfl | (simp only [World.size_alloc, World.size_setCell, World.size_drew, World.heap_drewN]; done))) | (with_reducible refine Bk.alloc ?_ _) | (with_reducible refine Bk.drew ?_) | (with_reducible refine Bk.drewN ?_ _) | ((with_reducible refine Bk.far ?_ ?_ _); rotate_left; focus (simp only []; omega)) | ((with_reducible refine Bk.below ?_ (by with_reducible assumption) ?_); rotate_left; focus (go_size; done))))
      have c0 := b1.cell 0 rfl
      have c1 := b1.cell 1 rfl
      have f0 := b1.frozen 0
      have f1 := b1.frozen 1
      have l1 := b1.lt
      clear b1 hb1c hb2c hb1f hb2f
      go_wp2_with fail
      refine bodyPost_ret (by simp [results, Try.results31, go_sem, *]; try rfl) rfl ?_
      exact ⟨rfl, by (repeat' (first | (with_reducible exact Below.refl _ _) | (with_reducible assumption) | (with_reducible refine Below.drew ?_) | (with_reducible refine below_drewN ?_ _) | ((with_reducible refine Below.alloc ?_ ?_ _); rotate_left; focus (go_size; done)) | ((with_reducible refine Below.setCell ?_ ?_ _); rotate_left; focus (go_size; done)) | ((with_reducible refine Below.trans ?_ (Below.mono (by with_reducible assumption) ?_)); rotate_left; focus (go_size; done))))⟩
end Go.Proofs.Ytnjiibeomailhaa
