/- Plain numbers out of decimals, and digits of plain numbers. -/
import Derived.Test.YthkgjodidkpaeaaHc
set_option linter.unusedSimpArgs false
set_option linter.unusedVariables false
namespace Go.Proofs.Ythkgjodidkpaeaa
open Go.RowKit

theorem small_step {a m : Nat} {D N : Int} (h : D + 10 ^ a * (m : Int) = N) : D + 10 ^ a * ((m : Int) % 10) + 10 ^ (a + 1) * ((m / 10 : Nat) : Int) = N := by
  rw [Int.pow_succ, ← h]
  have e : (m : Int) = (m : Int) % 10 + 10 * ((m / 10 : Nat) : Int) := by omega
  have e2 : (10 : Int) ^ a * (m : Int) = 10 ^ a * ((m : Int) % 10) + 10 ^ a * 10 * ((m / 10 : Nat) : Int) := by
    rw [Int.mul_assoc, ← Int.mul_add]; exact congrArg _ e
  omega
theorem small_len {a m N : Nat} {D : Int} (h : D + 10 ^ a * (m : Int) = (N : Int)) (h0 : 0 ≤ D) (hm : 0 < m) : 10 ^ a ≤ N := by
  have h1 : (10 : Int) ^ a * 1 ≤ 10 ^ a * (m : Int) := Int.mul_le_mul_of_nonneg_left (by omega) (Int.le_of_lt (ten_pos a))
  have h2 : ((10 ^ a : Nat) : Int) ≤ (N : Int) := by rw [Int.natCast_pow]; show (10 : Int) ^ a ≤ _; omega
  exact_mod_cast h2
set_option maxHeartbeats 2000000 in
theorem small_any (N : Nat) (hN : N ≤ 9223372036854775807) (w : World) : Calls Try.prog 59 #[.int .i64 N] w (RetDg N w) := by
  have H19 : Far (N < 10 ^ 19) := Far.mk (Nat.lt_of_le_of_lt hN (by decide))
  have hN' : (N : Int) ≤ 9223372036854775807 := by omega
  go_enter Try.func59, Try.ntmps59
  go_wp2_with fail
  go_loopg [0, 3] N (fun k nv d wr => ∃ ds : List Int, nv = .int .i64 (k : Int) ∧ k ≤ N ∧ wr.ownsRow w.heap.size 3 1 d ds.length (ds.map (Value.int .i64)) ∧ Hid (Digs ds) ∧ Far (dval ds + 10 ^ ds.length * (k : Int) = (N : Int)) ∧ Far (ds = [] ∨ 10 ^ (ds.length - 1) ≤ N) ∧ Below w.heap.size w wr)
  case atStart => exact ⟨[], rfl, Nat.le_refl _, World.ownsRow_nil _ _ _ _, Lib.hid Digs.nil, Far.mk (by simp [dval]), Far.mk (.inl rfl), Below.refl _ _⟩
  case round =>
    obtain ⟨ds, rfl, hk, hown, hdd, hval, htop, hbel⟩ := hrel
    have hwr := hbel.size
    by_cases h0 : gk = 0
    · subst h0
      have hng : ¬ (0 : Int) < ((0 : Nat) : Int) := by omega
      go_wp2_with fail
      go_ret
      have hv := hval.out
      rw [Int.natCast_zero, Int.mul_zero, Int.add_zero] at hv
      refine ⟨u3, rfl, ⟨ds, IsSl.of_own hown, hdd.out, top_of_val hdd.out ?_, hv⟩, hbel⟩
      rcases htop.out with h | h
      · exact .inl h
      · right
        rw [hv]
        have : ((10 ^ (ds.length - 1) : Nat) : Int) ≤ (N : Int) := by exact_mod_cast h
        rwa [Int.natCast_pow] at this
    · have hp : (0 : Int) < (gk : Int) := by omega
      have hgk : (gk : Int) ≤ 9223372036854775807 := by omega
      have hlen := small_len hval.out (dval_bd hdd.out).1 (Nat.pos_of_ne_zero h0)
      have hl19 : ds.length < 19 := by
        have h1 := Nat.lt_of_le_of_lt hlen H19.out
        exact (Nat.pow_lt_pow_iff_right (by decide)).1 h1
      have HL := Far.mk hlen
      clear hlen h0
      go_wp2_with (at_builtin; refine wpList_push rfl (.tmp 8) (.tmp 11) rfl w.heap.size u3 ds rfl (hown.alloc _) wr.heap.size ((gk : Int) % 10) rfl ?hc ?hl ?hb ?_; rotate_left 3; intro v1 w1 hown1 hg1)
      case hc => simp [go_sem]
      case hl => omega
      case hb => go_size
      go_roundg (gk / 10)
      case measure => omega
      case rel =>
        refine ⟨ds ++ [(gk : Int) % 10], by first | rfl | (congr 1), by omega, hown1, Lib.hid (hdd.out.snoc (by omega) (by omega)), Far.mk ?_, Far.mk (.inr ?_), below_push (hbel.alloc (by go_size) _) (hown.alloc _) hg1 (by go_size)⟩
        · rw [dval_snoc, List.length_append]
          exact small_step hval.out
        · rw [List.length_append]
          exact HL.out
theorem ofv_fit (neg : Bool) {m : Nat} (h : m ≤ 9223372036854775808) : m < B34 := Nat.lt_of_le_of_lt h (by unfold B34; decide)
set_option maxHeartbeats 2000000 in
theorem docof_any (n : Int) (h : -9223372036854775808 ≤ n ∧ n ≤ 9223372036854775807) (w : World) : Calls Try.prog 18 #[.int .i64 n] w fun e w' => e = .returned (OfV n) ∧ Below w.heap.size w w' := by
  have ha := absN_lt h
  obtain ⟨e1, e0⟩ := absN_wd h
  have hb := ofv_fit true ha
  unfold OfV
  by_cases hn : n < 0
  · have e : (absN n : Int) = -n := by unfold absN; omega
    have hne : absN n ≠ 0 := by unfold absN; omega
    have HO : Hid (∀ W, Calls Try.prog 49 #[.agg #[.int .u64 0, .int .u64 (-n)]] W (RetDg (absN n) W)) := Lib.hid (fun W => by
      have := of_any (absN n) (Nat.lt_trans hb B34_lt) W
      rwa [e1, e0, e] at this)
    have HM : Hid (∀ W v, Dg W v (absN n) → Calls Try.prog 58 #[.bool true, v, .int .i64 0] W fun e w' => e = .returned (.agg #[.bool true, .int .u64 (wd (absN n) 1), .int .u64 (wd (absN n) 0), .int .i64 0]) ∧ Below W.heap.size W w') := Lib.hid (fun W v hv => by
      have := make1_any true (absN n) 0 v W hv hb (by decide)
      rw [show stripC (absN n) 0 = absN n from rfl, show stripS (absN n) 0 = 0 from rfl, sg_pos hne] at this
      exact this)
    rw [decide_eq_true hn]
    generalize wd (absN n) 1 = z1 at *
    generalize wd (absN n) 0 = z0 at *
    generalize absN n = N at *
    have g1 : IntKind.u64.wrap (-(n + 1)) = -(n + 1) := by rw [IntKind.wrap_u64]; omega
    have g2 : -(n + 1) + 1 = -n := by omega
    clear e e1 e0 ha hb hne
    go_enter Try.func18, Try.ntmps18
    go_wp2_with fail
    refine (HO.out _).mono ?_
    rintro _ w1 ⟨v1, rfl, d1, hb1⟩; have hb1s := hb1.size; (try simp only [World.size_alloc, World.size_setCell, World.size_drew, World.heap_drewN] at hb1s); obtain ⟨hb1c, hb1f⟩ := bcell hb1; (try have : w.heap.size < w1.heap.size := by omega); (try have : w.heap.size + 1 < w1.heap.size := by omega); (try have : w.heap.size + 1 + 1 < w1.heap.size := by omega); (try have : w.heap.size + 1 + 1 + 1 < w1.heap.size := by omega); have Hd1 := Lib.hid d1; clear d1
    have kr : Bk w1 w.heap.size 26 [.bool false, .int .u64 0, .int .u64 0, .int .i64 0] := by (repeat (first | (with_reducible assumption) | ((with_reducible refine Bk.new_ ?_); (first | rfl | (simp only [World.size_alloc, World.size_setCell, World.size_drew, World.heap_drewN]; done))) | (with_reducible refine Bk.alloc ?_ _) | (with_reducible refine Bk.drew ?_) | (with_reducible refine Bk.drewN ?_ _) | ((with_reducible refine Bk.far ?_ ?_ _); rotate_left; focus (simp only []; omega)) | ((with_reducible refine Bk.below ?_ (by with_reducible assumption) ?_); rotate_left; focus (go_size; done))))
    have krl := kr.lt
    clear hb1c hb1f
    go_wp2_with fail
    refine (HM.out _ _ Hd1.out).mono ?_
    rintro _ w2 ⟨rfl, hb2⟩; have hb2s := hb2.size; (try simp only [World.size_alloc, World.size_setCell, World.size_drew, World.heap_drewN] at hb2s); obtain ⟨hb2c, hb2f⟩ := bcell hb2; (try have : w.heap.size < w2.heap.size := by omega); (try have : w.heap.size + 1 < w2.heap.size := by omega); (try have : w.heap.size + 1 + 1 < w2.heap.size := by omega); (try have : w.heap.size + 1 + 1 + 1 < w2.heap.size := by omega)
    have jr : Bk w2 w.heap.size 26 [.bool false, .int .u64 0, .int .u64 0, .int .i64 0] := by (repeat (first | (with_reducible assumption) | ((with_reducible refine Bk.new_ ?_); (first | rfl | (simp only [World.size_alloc, World.size_setCell, World.size_drew, World.heap_drewN]; done))) | (with_reducible refine Bk.alloc ?_ _) | (with_reducible refine Bk.drew ?_) | (with_reducible refine Bk.drewN ?_ _) | ((with_reducible refine Bk.far ?_ ?_ _); rotate_left; focus (simp only []; omega)) | ((with_reducible refine Bk.below ?_ (by with_reducible assumption) ?_); rotate_left; focus (go_size; done))))
    have jr_0 := jr.cell 0 rfl
    have jr_1 := jr.cell 1 rfl
    have jr_2 := jr.cell 2 rfl
    have jr_3 := jr.cell 3 rfl
    have jr_4 := jr.frozen 0
    have jr_5 := jr.frozen 1
    have jr_6 := jr.frozen 2
    have jr_7 := jr.frozen 3
    clear hb2c hb2f
    go_wp2_with fail
    refine bodyPost_ret (by simp [results, Try.results18, go_sem, *]; try rfl) rfl ?_
    exact ⟨rfl, by (repeat' (first | (with_reducible exact Below.refl _ _) | (with_reducible assumption) | (with_reducible refine Below.drew ?_) | (with_reducible refine below_drewN ?_ _) | ((with_reducible refine Below.alloc ?_ ?_ _); rotate_left; focus (go_size; done)) | ((with_reducible refine Below.setCell ?_ ?_ _); rotate_left; focus (go_size; done)) | ((with_reducible refine Below.trans ?_ (Below.mono (by with_reducible assumption) ?_)); rotate_left; focus (go_size; done))))⟩
  · have hn0 : 0 ≤ n := by omega
    obtain ⟨N, rfl⟩ := Int.eq_ofNat_of_zero_le hn0
    have e : absN (N : Int) = N := by unfold absN; omega
    rw [e] at hb e1 e0 ⊢
    have HS := Lib.hid (fun W => small_any N (by omega) W)
    have HM : Hid (∀ W v, Dg W v N → Calls Try.prog 58 #[.bool false, v, .int .i64 0] W fun e w' => e = .returned (.agg #[.bool false, .int .u64 (wd N 1), .int .u64 (wd N 0), .int .i64 0]) ∧ Below W.heap.size W w') := Lib.hid (fun W v hv => by
      have := make1_any false N 0 v W hv hb (by decide)
      rw [show stripC N 0 = N from rfl, show stripS N 0 = 0 from rfl, show sg false N = false by unfold sg; simp] at this
      exact this)
    rw [decide_eq_false hn]
    generalize wd N 1 = z1 at *
    generalize wd N 0 = z0 at *
    clear e e1 e0 ha hb
    go_enter Try.func18, Try.ntmps18
    go_wp2_with fail
    refine (HS.out _).mono ?_
    rintro _ w1 ⟨v1, rfl, d1, hb1⟩; have hb1s := hb1.size; (try simp only [World.size_alloc, World.size_setCell, World.size_drew, World.heap_drewN] at hb1s); obtain ⟨hb1c, hb1f⟩ := bcell hb1; (try have : w.heap.size < w1.heap.size := by omega); (try have : w.heap.size + 1 < w1.heap.size := by omega); (try have : w.heap.size + 1 + 1 < w1.heap.size := by omega); (try have : w.heap.size + 1 + 1 + 1 < w1.heap.size := by omega); have Hd1 := Lib.hid d1; clear d1
    have kr : Bk w1 w.heap.size 26 [.bool false, .int .u64 0, .int .u64 0, .int .i64 0] := by (repeat (first | (with_reducible assumption) | ((with_reducible refine Bk.new_ ?_); (first | rfl | (simp only [World.size_alloc, World.size_setCell, World.size_drew, World.heap_drewN]; done))) | (with_reducible refine Bk.alloc ?_ _) | (with_reducible refine Bk.drew ?_) | (with_reducible refine Bk.drewN ?_ _) | ((with_reducible refine Bk.far ?_ ?_ _); rotate_left; focus (simp only []; omega)) | ((with_reducible refine Bk.below ?_ (by with_reducible assumption) ?_); rotate_left; focus (go_size; done))))
    have krl := kr.lt
    clear hb1c hb1f
    go_wp2_with fail
    refine (HM.out _ _ Hd1.out).mono ?_
    rintro _ w2 ⟨rfl, hb2⟩; have hb2s := hb2.size; (try simp only [World.size_alloc, World.size_setCell, World.size_drew, World.heap_drewN] at hb2s); obtain ⟨hb2c, hb2f⟩ := bcell hb2; (try have : w.heap.size < w2.heap.size := by omega); (try have : w.heap.size + 1 < w2.heap.size := by omega); (try have : w.heap.size + 1 + 1 < w2.heap.size := by omega); (try have : w.heap.size + 1 + 1 + 1 < w2.heap.size := by omega)
    have jr : Bk w2 w.heap.size 26 [.bool false, .int .u64 0, .int .u64 0, .int .i64 0] := by (repeat (first | (with_reducible assumption) | ((with_reducible refine Bk.new_ ?_); (first | rfl | (simp only [World.size_alloc, World.size_setCell, World.size_drew, World.heap_drewN]; done))) | (with_reducible refine Bk.alloc ?_ _) | (with_reducible refine Bk.drew ?_) | (with_reducible refine Bk.drewN ?_ _) | ((with_reducible refine Bk.far ?_ ?_ _); rotate_left; focus (simp only []; omega)) | ((with_reducible refine Bk.below ?_ (by with_reducible assumption) ?_); rotate_left; focus (go_size; done))))
    have jr_0 := jr.cell 0 rfl
    have jr_1 := jr.cell 1 rfl
    have jr_2 := jr.cell 2 rfl
    have jr_3 := jr.cell 3 rfl
    have jr_4 := jr.frozen 0
    have jr_5 := jr.frozen 1
    have jr_6 := jr.frozen 2
    have jr_7 := jr.frozen 3
    clear hb2c hb2f
    go_wp2_with fail
    refine bodyPost_ret (by simp [results, Try.results18, go_sem, *]; try rfl) rfl ?_
    exact ⟨rfl, by (repeat' (first | (with_reducible exact Below.refl _ _) | (with_reducible assumption) | (with_reducible refine Below.drew ?_) | (with_reducible refine below_drewN ?_ _) | ((with_reducible refine Below.alloc ?_ ?_ _); rotate_left; focus (go_size; done)) | ((with_reducible refine Below.setCell ?_ ?_ _); rotate_left; focus (go_size; done)) | ((with_reducible refine Below.trans ?_ (Below.mono (by with_reducible assumption) ?_)); rotate_left; focus (go_size; done))))⟩
/-- a decimal as a plain number: the error, the number -/
def intE (b : Bool) (c : Nat) (s : Int) (f : Bool) : Int := if f = false then 2 else if 0 < s then 9 else if (if b = true then 9223372036854775808 else 9223372036854775807) < c then 3 else 0
def intR (b : Bool) (c : Nat) (s : Int) (f : Bool) : Int := if intE b c s f = 0 then (if b = true then -(c : Int) else c) else 0
theorem intE_bad (b : Bool) (c : Nat) (s : Int) : intE b c s false = 2 ∧ intR b c s false = 0 := by
  have e : intE b c s false = 2 := by unfold intE; rw [if_pos rfl]
  exact ⟨e, by unfold intR; rw [e, if_neg (by decide)]⟩
theorem intE_type {b : Bool} {c : Nat} {s : Int} (h : 0 < s) : intE b c s true = 9 ∧ intR b c s true = 0 := by
  have e : intE b c s true = 9 := by unfold intE; rw [if_neg (by decide), if_pos h]
  exact ⟨e, by unfold intR; rw [e, if_neg (by decide)]⟩
theorem intE_over {b : Bool} {c : Nat} {s : Int} (h : ¬ 0 < s) (hc : (if b = true then 9223372036854775808 else 9223372036854775807) < c) : intE b c s true = 3 ∧ intR b c s true = 0 := by
  have e : intE b c s true = 3 := by unfold intE; rw [if_neg (by decide), if_neg h, if_pos hc]
  exact ⟨e, by unfold intR; rw [e, if_neg (by decide)]⟩
theorem intE_ok {b : Bool} {c : Nat} {s : Int} (h : ¬ 0 < s) (hc : ¬ (if b = true then 9223372036854775808 else 9223372036854775807) < c) : intE b c s true = 0 ∧ intR b c s true = if b = true then -(c : Int) else c := by
  have e : intE b c s true = 0 := by unfold intE; rw [if_neg (by decide), if_neg h, if_neg hc]
  exact ⟨e, by unfold intR; rw [e, if_pos rfl]⟩
set_option maxHeartbeats 4000000 in
theorem int_any (b : Bool) (c : Nat) (s : Int) (hc : c < 2 ^ 128) (w : World) : Calls Try.prog 22 #[.agg #[.bool b, .int .u64 (wd (c) 1), .int .u64 (wd (c) 0), .int .i64 s]] w fun e w' => e = .returned (.tuple #[.int .i64 (intR b c s (dform b c s)), .int .i64 (intE b c s (dform b c s))]) ∧ Below w.heap.size w w' := by
  have HF := Lib.hid (fun W => form_any b c s hc W)
  have hw := wd_two hc
  have a0 := wd_nn c 0
  have a1 := wd_lt c 0
  have b0 := wd_nn c 1
  have b1 := wd_lt c 1
  have hneg : dform b c s = true → c = 0 → b = false := fun h h0 => by
    obtain ⟨t, _, _, _, h3, _⟩ := (dform_iff _ _ _).1 h
    exact (h3 h0).1
  generalize dform b c s = f at *
  cases f
  · rw [(intE_bad b c s).1, (intE_bad b c s).2]
    generalize wd c 0 = x0 at *
    generalize wd c 1 = x1 at *
    clear hw hc hneg a0 a1 b0 b1
    go_enter Try.func22, Try.ntmps22
    go_wp2_with fail
    refine (HF.out _).mono ?_
    rintro _ w1 ⟨rfl, hb1⟩; have hb1s := hb1.size; (try simp only [World.size_alloc, World.size_setCell, World.size_drew, World.heap_drewN] at hb1s); obtain ⟨hb1c, hb1f⟩ := bcell hb1; (try have : w.heap.size < w1.heap.size := by omega); (try have : w.heap.size + 1 < w1.heap.size := by omega); (try have : w.heap.size + 1 + 1 < w1.heap.size := by omega); (try have : w.heap.size + 1 + 1 + 1 < w1.heap.size := by omega)
    go_wp2_with fail
    go_ret2
    exact ⟨rfl, by (repeat' (first | (with_reducible exact Below.refl _ _) | (with_reducible assumption) | (with_reducible refine Below.drew ?_) | (with_reducible refine below_drewN ?_ _) | ((with_reducible refine Below.alloc ?_ ?_ _); rotate_left; focus (go_size; done)) | ((with_reducible refine Below.setCell ?_ ?_ _); rotate_left; focus (go_size; done)) | ((with_reducible refine Below.trans ?_ (Below.mono (by with_reducible assumption) ?_)); rotate_left; focus (go_size; done))))⟩
  · by_cases hs : 0 < s
    · rw [(intE_type hs).1, (intE_type hs).2]
      generalize wd c 0 = x0 at *
      generalize wd c 1 = x1 at *
      clear hw hc hneg a0 a1 b0 b1
      go_enter Try.func22, Try.ntmps22
      go_wp2_with fail
      refine (HF.out _).mono ?_
      rintro _ w1 ⟨rfl, hb1⟩; have hb1s := hb1.size; (try simp only [World.size_alloc, World.size_setCell, World.size_drew, World.heap_drewN] at hb1s); obtain ⟨hb1c, hb1f⟩ := bcell hb1; (try have : w.heap.size < w1.heap.size := by omega); (try have : w.heap.size + 1 < w1.heap.size := by omega); (try have : w.heap.size + 1 + 1 < w1.heap.size := by omega); (try have : w.heap.size + 1 + 1 + 1 < w1.heap.size := by omega)
      have k0 : Bk w1 (w.heap.size) 26 [.bool b, .int .u64 x1, .int .u64 x0, .int .i64 s] := by (repeat (first | (with_reducible assumption) | ((with_reducible refine Bk.new_ ?_); (first | rfl | (simp only [World.size_alloc, World.size_setCell, World.size_drew, World.heap_drewN]; done))) | (with_reducible refine Bk.alloc ?_ _) | (with_reducible refine Bk.drew ?_) | (with_reducible refine Bk.drewN ?_ _) | ((with_reducible refine Bk.far ?_ ?_ _); rotate_left; focus (simp only []; omega)) | ((with_reducible refine Bk.below ?_ (by with_reducible assumption) ?_); rotate_left; focus (go_size; done))))
      have k0_0 := k0.cell 0 rfl
      have k0_1 := k0.cell 1 rfl
      have k0_2 := k0.cell 2 rfl
      have k0_3 := k0.cell 3 rfl
      have k0_4 := k0.frozen 0
      have k0_5 := k0.frozen 1
      have k0_6 := k0.frozen 2
      have k0_7 := k0.frozen 3
      have k0l := k0.lt
      clear hb1c hb1f k0
      go_wp2_with fail
      go_ret2
      exact ⟨rfl, by (repeat' (first | (with_reducible exact Below.refl _ _) | (with_reducible assumption) | (with_reducible refine Below.drew ?_) | (with_reducible refine below_drewN ?_ _) | ((with_reducible refine Below.alloc ?_ ?_ _); rotate_left; focus (go_size; done)) | ((with_reducible refine Below.setCell ?_ ?_ _); rotate_left; focus (go_size; done)) | ((with_reducible refine Below.trans ?_ (Below.mono (by with_reducible assumption) ?_)); rotate_left; focus (go_size; done))))⟩
    · by_cases ho : (if b = true then 9223372036854775808 else 9223372036854775807) < c
      · rw [(intE_over hs ho).1, (intE_over hs ho).2]
        have ho1 : 0 < wd c 1 ∨ (wd c 1 = 0 ∧ (if b = true then (9223372036854775808 : Int) else 9223372036854775807) < wd c 0) := by
          cases b <;> simp only [Bool.false_eq_true, if_false, if_true] at ho ⊢ <;> omega
        generalize wd c 0 = x0 at *
        generalize wd c 1 = x1 at *
        clear hw hc ho hneg
        cases b <;> simp only [Bool.false_eq_true, if_false, if_true] at ho1
        · rcases ho1 with ho1 | ⟨ho1, ho2⟩
          ·
            go_enter Try.func22, Try.ntmps22
            go_wp2_with fail
            refine (HF.out _).mono ?_
            rintro _ w1 ⟨rfl, hb1⟩; have hb1s := hb1.size; (try simp only [World.size_alloc, World.size_setCell, World.size_drew, World.heap_drewN] at hb1s); obtain ⟨hb1c, hb1f⟩ := bcell hb1; (try have : w.heap.size < w1.heap.size := by omega); (try have : w.heap.size + 1 < w1.heap.size := by omega); (try have : w.heap.size + 1 + 1 < w1.heap.size := by omega); (try have : w.heap.size + 1 + 1 + 1 < w1.heap.size := by omega)
            have k0 : Bk w1 (w.heap.size) 26 [.bool false, .int .u64 x1, .int .u64 x0, .int .i64 s] := by (repeat (first | (with_reducible assumption) | ((with_reducible refine Bk.new_ ?_); (first | rfl | (simp only [World.size_alloc, World.size_setCell, World.size_drew, World.heap_drewN]; done))) | (with_reducible refine Bk.alloc ?_ _) | (with_reducible refine Bk.drew ?_) | (with_reducible refine Bk.drewN ?_ _) | ((with_reducible refine Bk.far ?_ ?_ _); rotate_left; focus (simp only []; omega)) | ((with_reducible refine Bk.below ?_ (by with_reducible assumption) ?_); rotate_left; focus (go_size; done))))
            have k0_0 := k0.cell 0 rfl
            have k0_1 := k0.cell 1 rfl
            have k0_2 := k0.cell 2 rfl
            have k0_3 := k0.cell 3 rfl
            have k0_4 := k0.frozen 0
            have k0_5 := k0.frozen 1
            have k0_6 := k0.frozen 2
            have k0_7 := k0.frozen 3
            have k0l := k0.lt
            clear hb1c hb1f k0
            go_wp2_with fail
            go_ret2
            exact ⟨rfl, by (repeat' (first | (with_reducible exact Below.refl _ _) | (with_reducible assumption) | (with_reducible refine Below.drew ?_) | (with_reducible refine below_drewN ?_ _) | ((with_reducible refine Below.alloc ?_ ?_ _); rotate_left; focus (go_size; done)) | ((with_reducible refine Below.setCell ?_ ?_ _); rotate_left; focus (go_size; done)) | ((with_reducible refine Below.trans ?_ (Below.mono (by with_reducible assumption) ?_)); rotate_left; focus (go_size; done))))⟩
          · subst ho1
            by_cases he : x0 = 9223372036854775808
            · subst he
              go_enter Try.func22, Try.ntmps22
              go_wp2_with fail
              refine (HF.out _).mono ?_
              rintro _ w1 ⟨rfl, hb1⟩; have hb1s := hb1.size; (try simp only [World.size_alloc, World.size_setCell, World.size_drew, World.heap_drewN] at hb1s); obtain ⟨hb1c, hb1f⟩ := bcell hb1; (try have : w.heap.size < w1.heap.size := by omega); (try have : w.heap.size + 1 < w1.heap.size := by omega); (try have : w.heap.size + 1 + 1 < w1.heap.size := by omega); (try have : w.heap.size + 1 + 1 + 1 < w1.heap.size := by omega)
              have k0 : Bk w1 (w.heap.size) 26 [.bool false, .int .u64 0, .int .u64 9223372036854775808, .int .i64 s] := by (repeat (first | (with_reducible assumption) | ((with_reducible refine Bk.new_ ?_); (first | rfl | (simp only [World.size_alloc, World.size_setCell, World.size_drew, World.heap_drewN]; done))) | (with_reducible refine Bk.alloc ?_ _) | (with_reducible refine Bk.drew ?_) | (with_reducible refine Bk.drewN ?_ _) | ((with_reducible refine Bk.far ?_ ?_ _); rotate_left; focus (simp only []; omega)) | ((with_reducible refine Bk.below ?_ (by with_reducible assumption) ?_); rotate_left; focus (go_size; done))))
              have k0_0 := k0.cell 0 rfl
              have k0_1 := k0.cell 1 rfl
              have k0_2 := k0.cell 2 rfl
              have k0_3 := k0.cell 3 rfl
              have k0_4 := k0.frozen 0
              have k0_5 := k0.frozen 1
              have k0_6 := k0.frozen 2
              have k0_7 := k0.frozen 3
              have k0l := k0.lt
              clear hb1c hb1f k0
              go_wp2_with fail
              go_ret2
              exact ⟨rfl, by (repeat' (first | (with_reducible exact Below.refl _ _) | (with_reducible assumption) | (with_reducible refine Below.drew ?_) | (with_reducible refine below_drewN ?_ _) | ((with_reducible refine Below.alloc ?_ ?_ _); rotate_left; focus (go_size; done)) | ((with_reducible refine Below.setCell ?_ ?_ _); rotate_left; focus (go_size; done)) | ((with_reducible refine Below.trans ?_ (Below.mono (by with_reducible assumption) ?_)); rotate_left; focus (go_size; done))))⟩
            · have gq : (x0 == 9223372036854775808) = false := by simpa using he
              have gl : 9223372036854775808 < x0 := by omega
              clear he
              go_enter Try.func22, Try.ntmps22
              go_wp2_with fail
              refine (HF.out _).mono ?_
              rintro _ w1 ⟨rfl, hb1⟩; have hb1s := hb1.size; (try simp only [World.size_alloc, World.size_setCell, World.size_drew, World.heap_drewN] at hb1s); obtain ⟨hb1c, hb1f⟩ := bcell hb1; (try have : w.heap.size < w1.heap.size := by omega); (try have : w.heap.size + 1 < w1.heap.size := by omega); (try have : w.heap.size + 1 + 1 < w1.heap.size := by omega); (try have : w.heap.size + 1 + 1 + 1 < w1.heap.size := by omega)
              have k0 : Bk w1 (w.heap.size) 26 [.bool false, .int .u64 0, .int .u64 x0, .int .i64 s] := by (repeat (first | (with_reducible assumption) | ((with_reducible refine Bk.new_ ?_); (first | rfl | (simp only [World.size_alloc, World.size_setCell, World.size_drew, World.heap_drewN]; done))) | (with_reducible refine Bk.alloc ?_ _) | (with_reducible refine Bk.drew ?_) | (with_reducible refine Bk.drewN ?_ _) | ((with_reducible refine Bk.far ?_ ?_ _); rotate_left; focus (simp only []; omega)) | ((with_reducible refine Bk.below ?_ (by with_reducible assumption) ?_); rotate_left; focus (go_size; done))))
              have k0_0 := k0.cell 0 rfl
              have k0_1 := k0.cell 1 rfl
              have k0_2 := k0.cell 2 rfl
              have k0_3 := k0.cell 3 rfl
              have k0_4 := k0.frozen 0
              have k0_5 := k0.frozen 1
              have k0_6 := k0.frozen 2
              have k0_7 := k0.frozen 3
              have k0l := k0.lt
              clear hb1c hb1f k0
              go_wp2_with fail
              go_ret2
              exact ⟨rfl, by (repeat' (first | (with_reducible exact Below.refl _ _) | (with_reducible assumption) | (with_reducible refine Below.drew ?_) | (with_reducible refine below_drewN ?_ _) | ((with_reducible refine Below.alloc ?_ ?_ _); rotate_left; focus (go_size; done)) | ((with_reducible refine Below.setCell ?_ ?_ _); rotate_left; focus (go_size; done)) | ((with_reducible refine Below.trans ?_ (Below.mono (by with_reducible assumption) ?_)); rotate_left; focus (go_size; done))))⟩
        · rcases ho1 with ho1 | ⟨ho1, ho2⟩
          ·
            go_enter Try.func22, Try.ntmps22
            go_wp2_with fail
            refine (HF.out _).mono ?_
            rintro _ w1 ⟨rfl, hb1⟩; have hb1s := hb1.size; (try simp only [World.size_alloc, World.size_setCell, World.size_drew, World.heap_drewN] at hb1s); obtain ⟨hb1c, hb1f⟩ := bcell hb1; (try have : w.heap.size < w1.heap.size := by omega); (try have : w.heap.size + 1 < w1.heap.size := by omega); (try have : w.heap.size + 1 + 1 < w1.heap.size := by omega); (try have : w.heap.size + 1 + 1 + 1 < w1.heap.size := by omega)
            have k0 : Bk w1 (w.heap.size) 26 [.bool true, .int .u64 x1, .int .u64 x0, .int .i64 s] := by (repeat (first | (with_reducible assumption) | ((with_reducible refine Bk.new_ ?_); (first | rfl | (simp only [World.size_alloc, World.size_setCell, World.size_drew, World.heap_drewN]; done))) | (with_reducible refine Bk.alloc ?_ _) | (with_reducible refine Bk.drew ?_) | (with_reducible refine Bk.drewN ?_ _) | ((with_reducible refine Bk.far ?_ ?_ _); rotate_left; focus (simp only []; omega)) | ((with_reducible refine Bk.below ?_ (by with_reducible assumption) ?_); rotate_left; focus (go_size; done))))
            have k0_0 := k0.cell 0 rfl
            have k0_1 := k0.cell 1 rfl
            have k0_2 := k0.cell 2 rfl
            have k0_3 := k0.cell 3 rfl
            have k0_4 := k0.frozen 0
            have k0_5 := k0.frozen 1
            have k0_6 := k0.frozen 2
            have k0_7 := k0.frozen 3
            have k0l := k0.lt
            clear hb1c hb1f k0
            go_wp2_with fail
            go_ret2
            exact ⟨rfl, by (repeat' (first | (with_reducible exact Below.refl _ _) | (with_reducible assumption) | (with_reducible refine Below.drew ?_) | (with_reducible refine below_drewN ?_ _) | ((with_reducible refine Below.alloc ?_ ?_ _); rotate_left; focus (go_size; done)) | ((with_reducible refine Below.setCell ?_ ?_ _); rotate_left; focus (go_size; done)) | ((with_reducible refine Below.trans ?_ (Below.mono (by with_reducible assumption) ?_)); rotate_left; focus (go_size; done))))⟩
          · subst ho1
            go_enter Try.func22, Try.ntmps22
            go_wp2_with fail
            refine (HF.out _).mono ?_
            rintro _ w1 ⟨rfl, hb1⟩; have hb1s := hb1.size; (try simp only [World.size_alloc, World.size_setCell, World.size_drew, World.heap_drewN] at hb1s); obtain ⟨hb1c, hb1f⟩ := bcell hb1; (try have : w.heap.size < w1.heap.size := by omega); (try have : w.heap.size + 1 < w1.heap.size := by omega); (try have : w.heap.size + 1 + 1 < w1.heap.size := by omega); (try have : w.heap.size + 1 + 1 + 1 < w1.heap.size := by omega)
            have k0 : Bk w1 (w.heap.size) 26 [.bool true, .int .u64 0, .int .u64 x0, .int .i64 s] := by (repeat (first | (with_reducible assumption) | ((with_reducible refine Bk.new_ ?_); (first | rfl | (simp only [World.size_alloc, World.size_setCell, World.size_drew, World.heap_drewN]; done))) | (with_reducible refine Bk.alloc ?_ _) | (with_reducible refine Bk.drew ?_) | (with_reducible refine Bk.drewN ?_ _) | ((with_reducible refine Bk.far ?_ ?_ _); rotate_left; focus (simp only []; omega)) | ((with_reducible refine Bk.below ?_ (by with_reducible assumption) ?_); rotate_left; focus (go_size; done))))
            have k0_0 := k0.cell 0 rfl
            have k0_1 := k0.cell 1 rfl
            have k0_2 := k0.cell 2 rfl
            have k0_3 := k0.cell 3 rfl
            have k0_4 := k0.frozen 0
            have k0_5 := k0.frozen 1
            have k0_6 := k0.frozen 2
            have k0_7 := k0.frozen 3
            have k0l := k0.lt
            clear hb1c hb1f k0
            go_wp2_with fail
            go_ret2
            exact ⟨rfl, by (repeat' (first | (with_reducible exact Below.refl _ _) | (with_reducible assumption) | (with_reducible refine Below.drew ?_) | (with_reducible refine below_drewN ?_ _) | ((with_reducible refine Below.alloc ?_ ?_ _); rotate_left; focus (go_size; done)) | ((with_reducible refine Below.setCell ?_ ?_ _); rotate_left; focus (go_size; done)) | ((with_reducible refine Below.trans ?_ (Below.mono (by with_reducible assumption) ?_)); rotate_left; focus (go_size; done))))⟩
      · rw [(intE_ok hs ho).1, (intE_ok hs ho).2]
        have h1 : wd c 1 = 0 := by cases b <;> simp only [Bool.false_eq_true, if_false, if_true] at ho <;> omega
        have h0 : wd c 0 = (c : Int) := by omega
        rw [h1, h0] at HF
        rw [h1, h0]
        have hl : (c : Int) ≤ (if b = true then (9223372036854775808 : Int) else 9223372036854775807) := by cases b <;> simp only [Bool.false_eq_true, if_false, if_true] at ho ⊢ <;> omega
        have c0 : (0 : Int) ≤ (c : Int) := by omega
        have hneg2 : b = true → (1 : Int) ≤ (c : Int) := fun hb => by
          have := mt (hneg rfl) (by rw [hb]; decide)
          omega
        generalize (c : Int) = x0 at *
        clear hw hc ho hneg a0 a1 b0 b1 h1 h0
        cases b <;> simp only [Bool.false_eq_true, if_false, if_true] at hl ⊢
        · clear hneg2
          have gq : (x0 == 9223372036854775808) = false := by simp; omega
          have gl : ¬ 9223372036854775808 < x0 := by omega
          have gc : IntKind.i64.wrap x0 = x0 := by rw [IntKind.wrap_i64]; omega
          go_enter Try.func22, Try.ntmps22
          go_wp2_with fail
          refine (HF.out _).mono ?_
          rintro _ w1 ⟨rfl, hb1⟩; have hb1s := hb1.size; (try simp only [World.size_alloc, World.size_setCell, World.size_drew, World.heap_drewN] at hb1s); obtain ⟨hb1c, hb1f⟩ := bcell hb1; (try have : w.heap.size < w1.heap.size := by omega); (try have : w.heap.size + 1 < w1.heap.size := by omega); (try have : w.heap.size + 1 + 1 < w1.heap.size := by omega); (try have : w.heap.size + 1 + 1 + 1 < w1.heap.size := by omega)
          have k0 : Bk w1 (w.heap.size) 26 [.bool false, .int .u64 0, .int .u64 x0, .int .i64 s] := by (repeat (first | (with_reducible assumption) | ((with_reducible refine Bk.new_ ?_); (first | rfl | (simp only [World.size_alloc, World.size_setCell, World.size_drew, World.heap_drewN]; done))) | (with_reducible refine Bk.alloc ?_ _) | (with_reducible refine Bk.drew ?_) | (with_reducible refine Bk.drewN ?_ _) | ((with_reducible refine Bk.far ?_ ?_ _); rotate_left; focus (simp only []; omega)) | ((with_reducible refine Bk.below ?_ (by with_reducible assumption) ?_); rotate_left; focus (go_size; done))))
          have k0_0 := k0.cell 0 rfl
          have k0_1 := k0.cell 1 rfl
          have k0_2 := k0.cell 2 rfl
          have k0_3 := k0.cell 3 rfl
          have k0_4 := k0.frozen 0
          have k0_5 := k0.frozen 1
          have k0_6 := k0.frozen 2
          have k0_7 := k0.frozen 3
          have k0l := k0.lt
          clear hb1c hb1f k0
          go_wp2_with fail
          go_ret2
          exact ⟨rfl, by (repeat' (first | (with_reducible exact Below.refl _ _) | (with_reducible assumption) | (with_reducible refine Below.drew ?_) | (with_reducible refine below_drewN ?_ _) | ((with_reducible refine Below.alloc ?_ ?_ _); rotate_left; focus (go_size; done)) | ((with_reducible refine Below.setCell ?_ ?_ _); rotate_left; focus (go_size; done)) | ((with_reducible refine Below.trans ?_ (Below.mono (by with_reducible assumption) ?_)); rotate_left; focus (go_size; done))))⟩
        · have hp := hneg2 rfl
          clear hneg2
          have gc : IntKind.i64.wrap (x0 - 1) = x0 - 1 := by rw [IntKind.wrap_i64]; omega
          have gn : IntKind.u64.wrap (-x0) = 18446744073709551616 - x0 := by rw [IntKind.wrap_u64]; omega
          have gm : IntKind.i64.wrap (18446744073709551616 - x0) = -x0 := by rw [IntKind.wrap_i64]; omega
          by_cases he : x0 = 9223372036854775808
          · subst he
            go_enter Try.func22, Try.ntmps22
            go_wp2_with fail
            refine (HF.out _).mono ?_
            rintro _ w1 ⟨rfl, hb1⟩; have hb1s := hb1.size; (try simp only [World.size_alloc, World.size_setCell, World.size_drew, World.heap_drewN] at hb1s); obtain ⟨hb1c, hb1f⟩ := bcell hb1; (try have : w.heap.size < w1.heap.size := by omega); (try have : w.heap.size + 1 < w1.heap.size := by omega); (try have : w.heap.size + 1 + 1 < w1.heap.size := by omega); (try have : w.heap.size + 1 + 1 + 1 < w1.heap.size := by omega)
            have k0 : Bk w1 (w.heap.size) 26 [.bool true, .int .u64 0, .int .u64 9223372036854775808, .int .i64 s] := by (repeat (first | (with_reducible assumption) | ((with_reducible refine Bk.new_ ?_); (first | rfl | (simp only [World.size_alloc, World.size_setCell, World.size_drew, World.heap_drewN]; done))) | (with_reducible refine Bk.alloc ?_ _) | (with_reducible refine Bk.drew ?_) | (with_reducible refine Bk.drewN ?_ _) | ((with_reducible refine Bk.far ?_ ?_ _); rotate_left; focus (simp only []; omega)) | ((with_reducible refine Bk.below ?_ (by with_reducible assumption) ?_); rotate_left; focus (go_size; done))))
            have k0_0 := k0.cell 0 rfl
            have k0_1 := k0.cell 1 rfl
            have k0_2 := k0.cell 2 rfl
            have k0_3 := k0.cell 3 rfl
            have k0_4 := k0.frozen 0
            have k0_5 := k0.frozen 1
            have k0_6 := k0.frozen 2
            have k0_7 := k0.frozen 3
            have k0l := k0.lt
            clear hb1c hb1f k0
            go_wp2_with fail
            go_ret2
            exact ⟨by first | (simp; done) | (simp; rfl) | (simp [wrap64]; done) | (simp; unfold wrap64; omega) | (simp; decide +kernel), by (repeat' (first | (with_reducible exact Below.refl _ _) | (with_reducible assumption) | (with_reducible refine Below.drew ?_) | (with_reducible refine below_drewN ?_ _) | ((with_reducible refine Below.alloc ?_ ?_ _); rotate_left; focus (go_size; done)) | ((with_reducible refine Below.setCell ?_ ?_ _); rotate_left; focus (go_size; done)) | ((with_reducible refine Below.trans ?_ (Below.mono (by with_reducible assumption) ?_)); rotate_left; focus (go_size; done))))⟩
          · have gq : (x0 == 9223372036854775808) = false := by simpa using he
            clear he
            go_enter Try.func22, Try.ntmps22
            go_wp2_with fail
            refine (HF.out _).mono ?_
            rintro _ w1 ⟨rfl, hb1⟩; have hb1s := hb1.size; (try simp only [World.size_alloc, World.size_setCell, World.size_drew, World.heap_drewN] at hb1s); obtain ⟨hb1c, hb1f⟩ := bcell hb1; (try have : w.heap.size < w1.heap.size := by omega); (try have : w.heap.size + 1 < w1.heap.size := by omega); (try have : w.heap.size + 1 + 1 < w1.heap.size := by omega); (try have : w.heap.size + 1 + 1 + 1 < w1.heap.size := by omega)
            have k0 : Bk w1 (w.heap.size) 26 [.bool true, .int .u64 0, .int .u64 x0, .int .i64 s] := by (repeat (first | (with_reducible assumption) | ((with_reducible refine Bk.new_ ?_); (first | rfl | (simp only [World.size_alloc, World.size_setCell, World.size_drew, World.heap_drewN]; done))) | (with_reducible refine Bk.alloc ?_ _) | (with_reducible refine Bk.drew ?_) | (with_reducible refine Bk.drewN ?_ _) | ((with_reducible refine Bk.far ?_ ?_ _); rotate_left; focus (simp only []; omega)) | ((with_reducible refine Bk.below ?_ (by with_reducible assumption) ?_); rotate_left; focus (go_size; done))))
            have k0_0 := k0.cell 0 rfl
            have k0_1 := k0.cell 1 rfl
            have k0_2 := k0.cell 2 rfl
            have k0_3 := k0.cell 3 rfl
            have k0_4 := k0.frozen 0
            have k0_5 := k0.frozen 1
            have k0_6 := k0.frozen 2
            have k0_7 := k0.frozen 3
            have k0l := k0.lt
            clear hb1c hb1f k0
            go_wp2_with fail
            go_ret2
            exact ⟨by first | rfl | (show Ending.returned (.tuple #[.int .i64 (-(x0 - 1) - 1), .int .i64 0]) = _; rw [show -(x0 - 1) - 1 = -x0 by omega]) | (show Ending.returned (.tuple #[.int .i64 (IntKind.i64.wrap (18446744073709551616 - x0)), .int .i64 0]) = _; rw [gm]), by (repeat' (first | (with_reducible exact Below.refl _ _) | (with_reducible assumption) | (with_reducible refine Below.drew ?_) | (with_reducible refine below_drewN ?_ _) | ((with_reducible refine Below.alloc ?_ ?_ _); rotate_left; focus (go_size; done)) | ((with_reducible refine Below.setCell ?_ ?_ _); rotate_left; focus (go_size; done)) | ((with_reducible refine Below.trans ?_ (Below.mono (by with_reducible assumption) ?_)); rotate_left; focus (go_size; done))))⟩
set_option maxHeartbeats 4000000 in
theorem docint_any (b : Bool) (c : Nat) (s : Int) (hc : c < 2 ^ 128) (w : World) : Calls Try.prog 21 #[.agg #[.bool b, .int .u64 (wd (c) 1), .int .u64 (wd (c) 0), .int .i64 s]] w fun e w' => e = .returned (.tuple #[.int .i64 (intR b c s (dform b c s)), .int .i64 (intE b c s (dform b c s))]) ∧ Below w.heap.size w w' := by
  have HF := Lib.hid (fun W => rform_any b c s hc W)
  have hw := wd_two hc
  have a0 := wd_nn c 0
  have a1 := wd_lt c 0
  have b0 := wd_nn c 1
  have b1 := wd_lt c 1
  have hneg : dform b c s = true → c = 0 → b = false := fun h h0 => by
    obtain ⟨t, _, _, _, h3, _⟩ := (dform_iff _ _ _).1 h
    exact (h3 h0).1
  generalize dform b c s = f at *
  cases f
  · rw [(intE_bad b c s).1, (intE_bad b c s).2]
    generalize wd c 0 = x0 at *
    generalize wd c 1 = x1 at *
    clear hw hc hneg a0 a1 b0 b1
    go_enter Try.func21, Try.ntmps21
    go_wp2_with fail
    refine (HF.out _).mono ?_
    rintro _ w1 ⟨rfl, hb1⟩; have hb1s := hb1.size; (try simp only [World.size_alloc, World.size_setCell, World.size_drew, World.heap_drewN] at hb1s); obtain ⟨hb1c, hb1f⟩ := bcell hb1; (try have : w.heap.size < w1.heap.size := by omega); (try have : w.heap.size + 1 < w1.heap.size := by omega); (try have : w.heap.size + 1 + 1 < w1.heap.size := by omega); (try have : w.heap.size + 1 + 1 + 1 < w1.heap.size := by omega)
    go_wp2_with fail
    go_ret2
    exact ⟨rfl, by (repeat' (first | (with_reducible exact Below.refl _ _) | (with_reducible assumption) | (with_reducible refine Below.drew ?_) | (with_reducible refine below_drewN ?_ _) | ((with_reducible refine Below.alloc ?_ ?_ _); rotate_left; focus (go_size; done)) | ((with_reducible refine Below.setCell ?_ ?_ _); rotate_left; focus (go_size; done)) | ((with_reducible refine Below.trans ?_ (Below.mono (by with_reducible assumption) ?_)); rotate_left; focus (go_size; done))))⟩
  · by_cases hs : 0 < s
    · rw [(intE_type hs).1, (intE_type hs).2]
      generalize wd c 0 = x0 at *
      generalize wd c 1 = x1 at *
      clear hw hc hneg a0 a1 b0 b1
      go_enter Try.func21, Try.ntmps21
      go_wp2_with fail
      refine (HF.out _).mono ?_
      rintro _ w1 ⟨rfl, hb1⟩; have hb1s := hb1.size; (try simp only [World.size_alloc, World.size_setCell, World.size_drew, World.heap_drewN] at hb1s); obtain ⟨hb1c, hb1f⟩ := bcell hb1; (try have : w.heap.size < w1.heap.size := by omega); (try have : w.heap.size + 1 < w1.heap.size := by omega); (try have : w.heap.size + 1 + 1 < w1.heap.size := by omega); (try have : w.heap.size + 1 + 1 + 1 < w1.heap.size := by omega)
      have k0 : Bk w1 (w.heap.size) 26 [.bool b, .int .u64 x1, .int .u64 x0, .int .i64 s] := by (repeat (first | (with_reducible assumption) | ((with_reducible refine Bk.new_ ?_); (first | rfl | (simp only [World.size_alloc, World.size_setCell, World.size_drew, World.heap_drewN]; done))) | (with_reducible refine Bk.alloc ?_ _) | (with_reducible refine Bk.drew ?_) | (with_reducible refine Bk.drewN ?_ _) | ((with_reducible refine Bk.far ?_ ?_ _); rotate_left; focus (simp only []; omega)) | ((with_reducible refine Bk.below ?_ (by with_reducible assumption) ?_); rotate_left; focus (go_size; done))))
      have k0_0 := k0.cell 0 rfl
      have k0_1 := k0.cell 1 rfl
      have k0_2 := k0.cell 2 rfl
      have k0_3 := k0.cell 3 rfl
      have k0_4 := k0.frozen 0
      have k0_5 := k0.frozen 1
      have k0_6 := k0.frozen 2
      have k0_7 := k0.frozen 3
      have k0l := k0.lt
      clear hb1c hb1f k0
      go_wp2_with fail
      go_ret2
      exact ⟨rfl, by (repeat' (first | (with_reducible exact Below.refl _ _) | (with_reducible assumption) | (with_reducible refine Below.drew ?_) | (with_reducible refine below_drewN ?_ _) | ((with_reducible refine Below.alloc ?_ ?_ _); rotate_left; focus (go_size; done)) | ((with_reducible refine Below.setCell ?_ ?_ _); rotate_left; focus (go_size; done)) | ((with_reducible refine Below.trans ?_ (Below.mono (by with_reducible assumption) ?_)); rotate_left; focus (go_size; done))))⟩
    · by_cases ho : (if b = true then 9223372036854775808 else 9223372036854775807) < c
      · rw [(intE_over hs ho).1, (intE_over hs ho).2]
        have ho1 : 0 < wd c 1 ∨ (wd c 1 = 0 ∧ (if b = true then (9223372036854775808 : Int) else 9223372036854775807) < wd c 0) := by
          cases b <;> simp only [Bool.false_eq_true, if_false, if_true] at ho ⊢ <;> omega
        generalize wd c 0 = x0 at *
        generalize wd c 1 = x1 at *
        clear hw hc ho hneg
        cases b <;> simp only [Bool.false_eq_true, if_false, if_true] at ho1
        · rcases ho1 with ho1 | ⟨ho1, ho2⟩
          ·
            go_enter Try.func21, Try.ntmps21
            go_wp2_with fail
            refine (HF.out _).mono ?_
            rintro _ w1 ⟨rfl, hb1⟩; have hb1s := hb1.size; (try simp only [World.size_alloc, World.size_setCell, World.size_drew, World.heap_drewN] at hb1s); obtain ⟨hb1c, hb1f⟩ := bcell hb1; (try have : w.heap.size < w1.heap.size := by omega); (try have : w.heap.size + 1 < w1.heap.size := by omega); (try have : w.heap.size + 1 + 1 < w1.heap.size := by omega); (try have : w.heap.size + 1 + 1 + 1 < w1.heap.size := by omega)
            have k0 : Bk w1 (w.heap.size) 26 [.bool false, .int .u64 x1, .int .u64 x0, .int .i64 s] := by (repeat (first | (with_reducible assumption) | ((with_reducible refine Bk.new_ ?_); (first | rfl | (simp only [World.size_alloc, World.size_setCell, World.size_drew, World.heap_drewN]; done))) | (with_reducible refine Bk.alloc ?_ _) | (with_reducible refine Bk.drew ?_) | (with_reducible refine Bk.drewN ?_ _) | ((with_reducible refine Bk.far ?_ ?_ _); rotate_left; focus (simp only []; omega)) | ((with_reducible refine Bk.below ?_ (by with_reducible assumption) ?_); rotate_left; focus (go_size; done))))
            have k0_0 := k0.cell 0 rfl
            have k0_1 := k0.cell 1 rfl
            have k0_2 := k0.cell 2 rfl
            have k0_3 := k0.cell 3 rfl
            have k0_4 := k0.frozen 0
            have k0_5 := k0.frozen 1
            have k0_6 := k0.frozen 2
            have k0_7 := k0.frozen 3
            have k0l := k0.lt
            clear hb1c hb1f k0
            go_wp2_with fail
            go_ret2
            exact ⟨rfl, by (repeat' (first | (with_reducible exact Below.refl _ _) | (with_reducible assumption) | (with_reducible refine Below.drew ?_) | (with_reducible refine below_drewN ?_ _) | ((with_reducible refine Below.alloc ?_ ?_ _); rotate_left; focus (go_size; done)) | ((with_reducible refine Below.setCell ?_ ?_ _); rotate_left; focus (go_size; done)) | ((with_reducible refine Below.trans ?_ (Below.mono (by with_reducible assumption) ?_)); rotate_left; focus (go_size; done))))⟩
          · subst ho1
            by_cases he : x0 = 9223372036854775808
            · subst he
              go_enter Try.func21, Try.ntmps21
              go_wp2_with fail
              refine (HF.out _).mono ?_
              rintro _ w1 ⟨rfl, hb1⟩; have hb1s := hb1.size; (try simp only [World.size_alloc, World.size_setCell, World.size_drew, World.heap_drewN] at hb1s); obtain ⟨hb1c, hb1f⟩ := bcell hb1; (try have : w.heap.size < w1.heap.size := by omega); (try have : w.heap.size + 1 < w1.heap.size := by omega); (try have : w.heap.size + 1 + 1 < w1.heap.size := by omega); (try have : w.heap.size + 1 + 1 + 1 < w1.heap.size := by omega)
              have k0 : Bk w1 (w.heap.size) 26 [.bool false, .int .u64 0, .int .u64 9223372036854775808, .int .i64 s] := by (repeat (first | (with_reducible assumption) | ((with_reducible refine Bk.new_ ?_); (first | rfl | (simp only [World.size_alloc, World.size_setCell, World.size_drew, World.heap_drewN]; done))) | (with_reducible refine Bk.alloc ?_ _) | (with_reducible refine Bk.drew ?_) | (with_reducible refine Bk.drewN ?_ _) | ((with_reducible refine Bk.far ?_ ?_ _); rotate_left; focus (simp only []; omega)) | ((with_reducible refine Bk.below ?_ (by with_reducible assumption) ?_); rotate_left; focus (go_size; done))))
              have k0_0 := k0.cell 0 rfl
              have k0_1 := k0.cell 1 rfl
              have k0_2 := k0.cell 2 rfl
              have k0_3 := k0.cell 3 rfl
              have k0_4 := k0.frozen 0
              have k0_5 := k0.frozen 1
              have k0_6 := k0.frozen 2
              have k0_7 := k0.frozen 3
              have k0l := k0.lt
              clear hb1c hb1f k0
              go_wp2_with fail
              go_ret2
              exact ⟨rfl, by (repeat' (first | (with_reducible exact Below.refl _ _) | (with_reducible assumption) | (with_reducible refine Below.drew ?_) | (with_reducible refine below_drewN ?_ _) | ((with_reducible refine Below.alloc ?_ ?_ _); rotate_left; focus (go_size; done)) | ((with_reducible refine Below.setCell ?_ ?_ _); rotate_left; focus (go_size; done)) | ((with_reducible refine Below.trans ?_ (Below.mono (by with_reducible assumption) ?_)); rotate_left; focus (go_size; done))))⟩
            · have gq : (x0 == 9223372036854775808) = false := by simpa using he
              have gl : 9223372036854775808 < x0 := by omega
              clear he
              go_enter Try.func21, Try.ntmps21
              go_wp2_with fail
              refine (HF.out _).mono ?_
              rintro _ w1 ⟨rfl, hb1⟩; have hb1s := hb1.size; (try simp only [World.size_alloc, World.size_setCell, World.size_drew, World.heap_drewN] at hb1s); obtain ⟨hb1c, hb1f⟩ := bcell hb1; (try have : w.heap.size < w1.heap.size := by omega); (try have : w.heap.size + 1 < w1.heap.size := by omega); (try have : w.heap.size + 1 + 1 < w1.heap.size := by omega); (try have : w.heap.size + 1 + 1 + 1 < w1.heap.size := by omega)
              have k0 : Bk w1 (w.heap.size) 26 [.bool false, .int .u64 0, .int .u64 x0, .int .i64 s] := by (repeat (first | (with_reducible assumption) | ((with_reducible refine Bk.new_ ?_); (first | rfl | (simp only [World.size_alloc, World.size_setCell, World.size_drew, World.heap_drewN]; done))) | (with_reducible refine Bk.alloc ?_ _) | (with_reducible refine Bk.drew ?_) | (with_reducible refine Bk.drewN ?_ _) | ((with_reducible refine Bk.far ?_ ?_ _); rotate_left; focus (simp only []; omega)) | ((with_reducible refine Bk.below ?_ (by with_reducible assumption) ?_); rotate_left; focus (go_size; done))))
              have k0_0 := k0.cell 0 rfl
              have k0_1 := k0.cell 1 rfl
              have k0_2 := k0.cell 2 rfl
              have k0_3 := k0.cell 3 rfl
              have k0_4 := k0.frozen 0
              have k0_5 := k0.frozen 1
              have k0_6 := k0.frozen 2
              have k0_7 := k0.frozen 3
              have k0l := k0.lt
              clear hb1c hb1f k0
              go_wp2_with fail
              go_ret2
              exact ⟨rfl, by (repeat' (first | (with_reducible exact Below.refl _ _) | (with_reducible assumption) | (with_reducible refine Below.drew ?_) | (with_reducible refine below_drewN ?_ _) | ((with_reducible refine Below.alloc ?_ ?_ _); rotate_left; focus (go_size; done)) | ((with_reducible refine Below.setCell ?_ ?_ _); rotate_left; focus (go_size; done)) | ((with_reducible refine Below.trans ?_ (Below.mono (by with_reducible assumption) ?_)); rotate_left; focus (go_size; done))))⟩
        · rcases ho1 with ho1 | ⟨ho1, ho2⟩
          ·
            go_enter Try.func21, Try.ntmps21
            go_wp2_with fail
            refine (HF.out _).mono ?_
            rintro _ w1 ⟨rfl, hb1⟩; have hb1s := hb1.size; (try simp only [World.size_alloc, World.size_setCell, World.size_drew, World.heap_drewN] at hb1s); obtain ⟨hb1c, hb1f⟩ := bcell hb1; (try have : w.heap.size < w1.heap.size := by omega); (try have : w.heap.size + 1 < w1.heap.size := by omega); (try have : w.heap.size + 1 + 1 < w1.heap.size := by omega); (try have : w.heap.size + 1 + 1 + 1 < w1.heap.size := by omega)
            have k0 : Bk w1 (w.heap.size) 26 [.bool true, .int .u64 x1, .int .u64 x0, .int .i64 s] := by (repeat (first | (with_reducible assumption) | ((with_reducible refine Bk.new_ ?_); (first | rfl | (simp only [World.size_alloc, World.size_setCell, World.size_drew, World.heap_drewN]; done))) | (with_reducible refine Bk.alloc ?_ _) | (with_reducible refine Bk.drew ?_) | (with_reducible refine Bk.drewN ?_ _) | ((with_reducible refine Bk.far ?_ ?_ _); rotate_left; focus (simp only []; omega)) | ((with_reducible refine Bk.below ?_ (by with_reducible assumption) ?_); rotate_left; focus (go_size; done))))
            have k0_0 := k0.cell 0 rfl
            have k0_1 := k0.cell 1 rfl
            have k0_2 := k0.cell 2 rfl
            have k0_3 := k0.cell 3 rfl
            have k0_4 := k0.frozen 0
            have k0_5 := k0.frozen 1
            have k0_6 := k0.frozen 2
            have k0_7 := k0.frozen 3
            have k0l := k0.lt
            clear hb1c hb1f k0
            go_wp2_with fail
            go_ret2
            exact ⟨rfl, by (repeat' (first | (with_reducible exact Below.refl _ _) | (with_reducible assumption) | (with_reducible refine Below.drew ?_) | (with_reducible refine below_drewN ?_ _) | ((with_reducible refine Below.alloc ?_ ?_ _); rotate_left; focus (go_size; done)) | ((with_reducible refine Below.setCell ?_ ?_ _); rotate_left; focus (go_size; done)) | ((with_reducible refine Below.trans ?_ (Below.mono (by with_reducible assumption) ?_)); rotate_left; focus (go_size; done))))⟩
          · subst ho1
            go_enter Try.func21, Try.ntmps21
            go_wp2_with fail
            refine (HF.out _).mono ?_
            rintro _ w1 ⟨rfl, hb1⟩; have hb1s := hb1.size; (try simp only [World.size_alloc, World.size_setCell, World.size_drew, World.heap_drewN] at hb1s); obtain ⟨hb1c, hb1f⟩ := bcell hb1; (try have : w.heap.size < w1.heap.size := by omega); (try have : w.heap.size + 1 < w1.heap.size := by omega); (try have : w.heap.size + 1 + 1 < w1.heap.size := by omega); (try have : w.heap.size + 1 + 1 + 1 < w1.heap.size := by omega)
            have k0 : Bk w1 (w.heap.size) 26 [.bool true, .int .u64 0, .int .u64 x0, .int .i64 s] := by (repeat (first | (with_reducible assumption) | ((with_reducible refine Bk.new_ ?_); (first | rfl | (simp only [World.size_alloc, World.size_setCell, World.size_drew, World.heap_drewN]; done))) | (with_reducible refine Bk.alloc ?_ _) | (with_reducible refine Bk.drew ?_) | (with_reducible refine Bk.drewN ?_ _) | ((with_reducible refine Bk.far ?_ ?_ _); rotate_left; focus (simp only []; omega)) | ((with_reducible refine Bk.below ?_ (by with_reducible assumption) ?_); rotate_left; focus (go_size; done))))
            have k0_0 := k0.cell 0 rfl
            have k0_1 := k0.cell 1 rfl
            have k0_2 := k0.cell 2 rfl
            have k0_3 := k0.cell 3 rfl
            have k0_4 := k0.frozen 0
            have k0_5 := k0.frozen 1
            have k0_6 := k0.frozen 2
            have k0_7 := k0.frozen 3
            have k0l := k0.lt
            clear hb1c hb1f k0
            go_wp2_with fail
            go_ret2
            exact ⟨rfl, by (repeat' (first | (with_reducible exact Below.refl _ _) | (with_reducible assumption) | (with_reducible refine Below.drew ?_) | (with_reducible refine below_drewN ?_ _) | ((with_reducible refine Below.alloc ?_ ?_ _); rotate_left; focus (go_size; done)) | ((with_reducible refine Below.setCell ?_ ?_ _); rotate_left; focus (go_size; done)) | ((with_reducible refine Below.trans ?_ (Below.mono (by with_reducible assumption) ?_)); rotate_left; focus (go_size; done))))⟩
      · rw [(intE_ok hs ho).1, (intE_ok hs ho).2]
        have h1 : wd c 1 = 0 := by cases b <;> simp only [Bool.false_eq_true, if_false, if_true] at ho <;> omega
        have h0 : wd c 0 = (c : Int) := by omega
        rw [h1, h0] at HF
        rw [h1, h0]
        have hl : (c : Int) ≤ (if b = true then (9223372036854775808 : Int) else 9223372036854775807) := by cases b <;> simp only [Bool.false_eq_true, if_false, if_true] at ho ⊢ <;> omega
        have c0 : (0 : Int) ≤ (c : Int) := by omega
        have hneg2 : b = true → (1 : Int) ≤ (c : Int) := fun hb => by
          have := mt (hneg rfl) (by rw [hb]; decide)
          omega
        generalize (c : Int) = x0 at *
        clear hw hc ho hneg a0 a1 b0 b1 h1 h0
        cases b <;> simp only [Bool.false_eq_true, if_false, if_true] at hl ⊢
        · clear hneg2
          have gq : (x0 == 9223372036854775808) = false := by simp; omega
          have gl : ¬ 9223372036854775808 < x0 := by omega
          have gc : IntKind.i64.wrap x0 = x0 := by rw [IntKind.wrap_i64]; omega
          go_enter Try.func21, Try.ntmps21
          go_wp2_with fail
          refine (HF.out _).mono ?_
          rintro _ w1 ⟨rfl, hb1⟩; have hb1s := hb1.size; (try simp only [World.size_alloc, World.size_setCell, World.size_drew, World.heap_drewN] at hb1s); obtain ⟨hb1c, hb1f⟩ := bcell hb1; (try have : w.heap.size < w1.heap.size := by omega); (try have : w.heap.size + 1 < w1.heap.size := by omega); (try have : w.heap.size + 1 + 1 < w1.heap.size := by omega); (try have : w.heap.size + 1 + 1 + 1 < w1.heap.size := by omega)
          have k0 : Bk w1 (w.heap.size) 26 [.bool false, .int .u64 0, .int .u64 x0, .int .i64 s] := by (repeat (first | (with_reducible assumption) | ((with_reducible refine Bk.new_ ?_); (first | rfl | (simp only [World.size_alloc, World.size_setCell, World.size_drew, World.heap_drewN]; done))) | (with_reducible refine Bk.alloc ?_ _) | (with_reducible refine Bk.drew ?_) | (with_reducible refine Bk.drewN ?_ _) | ((with_reducible refine Bk.far ?_ ?_ _); rotate_left; focus (simp only []; omega)) | ((with_reducible refine Bk.below ?_ (by with_reducible assumption) ?_); rotate_left; focus (go_size; done))))
          have k0_0 := k0.cell 0 rfl
          have k0_1 := k0.cell 1 rfl
          have k0_2 := k0.cell 2 rfl
          have k0_3 := k0.cell 3 rfl
          have k0_4 := k0.frozen 0
          have k0_5 := k0.frozen 1
          have k0_6 := k0.frozen 2
          have k0_7 := k0.frozen 3
          have k0l := k0.lt
          clear hb1c hb1f k0
          go_wp2_with fail
          go_ret2
          exact ⟨rfl, by (repeat' (first | (with_reducible exact Below.refl _ _) | (with_reducible assumption) | (with_reducible refine Below.drew ?_) | (with_reducible refine below_drewN ?_ _) | ((with_reducible refine Below.alloc ?_ ?_ _); rotate_left; focus (go_size; done)) | ((with_reducible refine Below.setCell ?_ ?_ _); rotate_left; focus (go_size; done)) | ((with_reducible refine Below.trans ?_ (Below.mono (by with_reducible assumption) ?_)); rotate_left; focus (go_size; done))))⟩
        · have hp := hneg2 rfl
          clear hneg2
          have gc : IntKind.i64.wrap (x0 - 1) = x0 - 1 := by rw [IntKind.wrap_i64]; omega
          have gn : IntKind.u64.wrap (-x0) = 18446744073709551616 - x0 := by rw [IntKind.wrap_u64]; omega
          have gm : IntKind.i64.wrap (18446744073709551616 - x0) = -x0 := by rw [IntKind.wrap_i64]; omega
          by_cases he : x0 = 9223372036854775808
          · subst he
            go_enter Try.func21, Try.ntmps21
            go_wp2_with fail
            refine (HF.out _).mono ?_
            rintro _ w1 ⟨rfl, hb1⟩; have hb1s := hb1.size; (try simp only [World.size_alloc, World.size_setCell, World.size_drew, World.heap_drewN] at hb1s); obtain ⟨hb1c, hb1f⟩ := bcell hb1; (try have : w.heap.size < w1.heap.size := by omega); (try have : w.heap.size + 1 < w1.heap.size := by omega); (try have : w.heap.size + 1 + 1 < w1.heap.size := by omega); (try have : w.heap.size + 1 + 1 + 1 < w1.heap.size := by omega)
            have k0 : Bk w1 (w.heap.size) 26 [.bool true, .int .u64 0, .int .u64 9223372036854775808, .int .i64 s] := by (repeat (first | (with_reducible assumption) | ((with_reducible refine Bk.new_ ?_); (first | rfl | (simp only [World.size_alloc, World.size_setCell, World.size_drew, World.heap_drewN]; done))) | (with_reducible refine Bk.alloc ?_ _) | (with_reducible refine Bk.drew ?_) | (with_reducible refine Bk.drewN ?_ _) | ((with_reducible refine Bk.far ?_ ?_ _); rotate_left; focus (simp only []; omega)) | ((with_reducible refine Bk.below ?_ (by with_reducible assumption) ?_); rotate_left; focus (go_size; done))))
            have k0_0 := k0.cell 0 rfl
            have k0_1 := k0.cell 1 rfl
            have k0_2 := k0.cell 2 rfl
            have k0_3 := k0.cell 3 rfl
            have k0_4 := k0.frozen 0
            have k0_5 := k0.frozen 1
            have k0_6 := k0.frozen 2
            have k0_7 := k0.frozen 3
            have k0l := k0.lt
            clear hb1c hb1f k0
            go_wp2_with fail
            go_ret2
            exact ⟨by first | (simp; done) | (simp; rfl) | (simp [wrap64]; done) | (simp; unfold wrap64; omega) | (simp; decide +kernel), by (repeat' (first | (with_reducible exact Below.refl _ _) | (with_reducible assumption) | (with_reducible refine Below.drew ?_) | (with_reducible refine below_drewN ?_ _) | ((with_reducible refine Below.alloc ?_ ?_ _); rotate_left; focus (go_size; done)) | ((with_reducible refine Below.setCell ?_ ?_ _); rotate_left; focus (go_size; done)) | ((with_reducible refine Below.trans ?_ (Below.mono (by with_reducible assumption) ?_)); rotate_left; focus (go_size; done))))⟩
          · have gq : (x0 == 9223372036854775808) = false := by simpa using he
            clear he
            go_enter Try.func21, Try.ntmps21
            go_wp2_with fail
            refine (HF.out _).mono ?_
            rintro _ w1 ⟨rfl, hb1⟩; have hb1s := hb1.size; (try simp only [World.size_alloc, World.size_setCell, World.size_drew, World.heap_drewN] at hb1s); obtain ⟨hb1c, hb1f⟩ := bcell hb1; (try have : w.heap.size < w1.heap.size := by omega); (try have : w.heap.size + 1 < w1.heap.size := by omega); (try have : w.heap.size + 1 + 1 < w1.heap.size := by omega); (try have : w.heap.size + 1 + 1 + 1 < w1.heap.size := by omega)
            have k0 : Bk w1 (w.heap.size) 26 [.bool true, .int .u64 0, .int .u64 x0, .int .i64 s] := by (repeat (first | (with_reducible assumption) | ((with_reducible refine Bk.new_ ?_); (first | rfl | (simp only [World.size_alloc, World.size_setCell, World.size_drew, World.heap_drewN]; done))) | (with_reducible refine Bk.alloc ?_ _) | (with_reducible refine Bk.drew ?_) | (with_reducible refine Bk.drewN ?_ _) | ((with_reducible refine Bk.far ?_ ?_ _); rotate_left; focus (simp only []; omega)) | ((with_reducible refine Bk.below ?_ (by with_reducible assumption) ?_); rotate_left; focus (go_size; done))))
            have k0_0 := k0.cell 0 rfl
            have k0_1 := k0.cell 1 rfl
            have k0_2 := k0.cell 2 rfl
            have k0_3 := k0.cell 3 rfl
            have k0_4 := k0.frozen 0
            have k0_5 := k0.frozen 1
            have k0_6 := k0.frozen 2
            have k0_7 := k0.frozen 3
            have k0l := k0.lt
            clear hb1c hb1f k0
            go_wp2_with fail
            go_ret2
            exact ⟨by first | rfl | (show Ending.returned (.tuple #[.int .i64 (-(x0 - 1) - 1), .int .i64 0]) = _; rw [show -(x0 - 1) - 1 = -x0 by omega]) | (show Ending.returned (.tuple #[.int .i64 (IntKind.i64.wrap (18446744073709551616 - x0)), .int .i64 0]) = _; rw [gm]), by (repeat' (first | (with_reducible exact Below.refl _ _) | (with_reducible assumption) | (with_reducible refine Below.drew ?_) | (with_reducible refine below_drewN ?_ _) | ((with_reducible refine Below.alloc ?_ ?_ _); rotate_left; focus (go_size; done)) | ((with_reducible refine Below.setCell ?_ ?_ _); rotate_left; focus (go_size; done)) | ((with_reducible refine Below.trans ?_ (Below.mono (by with_reducible assumption) ?_)); rotate_left; focus (go_size; done))))⟩
end Go.Proofs.Ythkgjodidkpaeaa
