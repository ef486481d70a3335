/- The contracts of the functions that the laws reach, part 5: what each returns and what becomes of memory. -/
import Derived.Test.YtbnadlpkbbdgjaaGreatDoorM4
set_option linter.unusedSimpArgs false
set_option linter.unusedVariables false


namespace Go.Proofs.YtbnadlpkbbdgjaaGreatDoor
open Go.RowKit

theorem dform_hi {b : Bool} {c : Nat} {s : Int} (h : ¬ c < B34) : dform b c s = false:=by unfold dform;rw [decide_eq_false h];rfl
theorem dform_neg {b : Bool} {c : Nat} {s : Int} (h : s < 0) : dform b c s = false:=by unfold dform;rw [decide_eq_false (show ¬ 0 ≤ s by omega)];simp
theorem dform_deep {b : Bool} {c : Nat} {s : Int} (h : 18 < s) : dform b c s = false:=by unfold dform;rw [decide_eq_false (show ¬ s ≤ 18 by omega)];simp
theorem dform_in {b : Bool} {c : Nat} {s : Int} (h : c < B34) (h0 : 0 ≤ s) (h1 : s ≤ 18) : dform b c s = if c = 0 then !b && decide (s = 0) else decide (s = 0) || decide (c % 10 ≠ 0):=by
 unfold dform;rw [decide_eq_true h,decide_eq_true h0,decide_eq_true h1];rfl
theorem cmp_bound {c : Nat} (h : c < B34) : cmpN c B34 < 0:=by unfold cmpN;rw [if_neg (by omega),if_pos h];decide
theorem cmp_bound' {c : Nat} (h : ¬ c < B34) : 0 ≤ cmpN c B34:=by unfold cmpN;rw [if_neg h];split <;> decide
set_option maxHeartbeats 4000000 in
theorem form_any (b : Bool) (c : Nat) (s : Int) (hc : c < 2 ^ 128) (w : World) : Calls Tryz.prog 70 #[.agg #[.bool b,.int .u64 (wd (c) 1),.int .u64 (wd (c) 0),.int .i64 s]] w fun e w' => e = .returned (.bool (dform b c s)) ∧ Below w.heap.size w w':=by
 have HC:=Lib.hid (fun W => cmp_any c B34 hc B34_lt W)
 have HB:=Lib.hid (fun W => bound_any W)
 have HZ:=Lib.hid (fun W => zero_any b c s hc W)
 generalize wd B34 0 = p0 at *
 generalize wd B34 1 = p1 at *
 by_cases hb : c < B34
 ·have g1:=cmp_bound hb
  have g1' : decide (0 ≤ cmpN c B34) = false:=by simp;omega
  by_cases h0 : s < 0
  ·rw [dform_neg h0]
   generalize cmpN c B34 = cc at *
   generalize wd c 0 = x0 at *
   generalize wd c 1 = x1 at *
   clear hc hb
   generalize decide (c = 0) = zz at *
   go_enter Tryz.func70,Tryz.ntmps70
   go_wp2_with fail
   first | (go_region_with (first | ((go_at_call 104;with_reducible refine (HB.out _).mono ?_);rintro _ w1 ⟨rfl,hb1⟩;have hb1s:=hb1.size;(try simp only [wsA,wsS,wsD,wsN] at hb1s);obtain ⟨hb1c,hb1f⟩:=bcell hb1;(try have : w.heap.size < w1.heap.size:=by omega);(try have : w.heap.size + 1 < w1.heap.size:=by omega);(try have : w.heap.size + 1 + 1 < w1.heap.size:=by omega);(try have : w.heap.size + 1 + 1 + 1 < w1.heap.size:=by omega)) | ((go_at_call 103;with_reducible refine (HC.out _).mono ?_);rintro _ w2 ⟨rfl,hb2⟩;have hb2s:=hb2.size;(try simp only [wsA,wsS,wsD,wsN] at hb2s);obtain ⟨hb2c,hb2f⟩:=bcell hb2;(try have : w.heap.size < w2.heap.size:=by omega);(try have : w.heap.size + 1 < w2.heap.size:=by omega);(try have : w.heap.size + 1 + 1 < w2.heap.size:=by omega);(try have : w.heap.size + 1 + 1 + 1 < w2.heap.size:=by omega);(try have : w1.heap.size < w2.heap.size:=by omega);(try have : w1.heap.size + 1 < w2.heap.size:=by omega);(try have : w1.heap.size + 1 + 1 < w2.heap.size:=by omega);(try have : w1.heap.size + 1 + 1 + 1 < w2.heap.size:=by omega)))) | fail
   all_goals
    go_wp2_with fail
    go_ret
    exact ⟨rfl,by exact bel⟩
  ·by_cases h1 : 18 < s
   ·rw [dform_deep h1]
    have g3 : decide (s < 0) = false:=by simp;omega
    generalize cmpN c B34 = cc at *
    generalize wd c 0 = x0 at *
    generalize wd c 1 = x1 at *
    clear hc hb
    generalize decide (c = 0) = zz at *
    go_enter Tryz.func70,Tryz.ntmps70
    go_wp2_with fail
    first | (go_region_held3 (fun w' => w'.cell? ⟨w.heap.size,1,none⟩ = some (.int .u64 x1) ∧ w'.cell? ⟨w.heap.size,2,none⟩ = some (.int .u64 x0) ∧ w'.cell? ⟨w.heap.size,3,none⟩ = some (.int .i64 s)) (first | (first | (go_keep;done) | (simp [go_sem];done) | ((try dsimp only);(repeat' apply And.intro) <;> (first | (with_reducible assumption) | ((rw [World.cell?_alloc_lt _ _ _ (by show _ < _;omega)]);go_split_ands;(first | with_reducible assumption | (refine (World.cell?_alloc_lt _ _ _ (by show _ < _;omega)).symm.trans ?_;with_reducible assumption))) | ((rw [World.cell?_setCell_other _ _ _ _ (by intro e;injection e;omega)]);with_reducible assumption) | (go_keep;done) | (simp [go_sem];done) | (simp (disch:=go_size) [*,World.cell?_alloc_some,World.cell?_setCell_far];done))))) (first | ((go_at_call 104;with_reducible refine (HB.out _).mono ?_);rintro _ w1 ⟨rfl,hb1⟩;have hb1s:=hb1.size;(try simp only [wsA,wsS,wsD,wsN] at hb1s);obtain ⟨hb1c,hb1f⟩:=bcell hb1;(try have : w.heap.size < w1.heap.size:=by omega);(try have : w.heap.size + 1 < w1.heap.size:=by omega);(try have : w.heap.size + 1 + 1 < w1.heap.size:=by omega);(try have : w.heap.size + 1 + 1 + 1 < w1.heap.size:=by omega)) | ((go_at_call 103;with_reducible refine (HC.out _).mono ?_);rintro _ w2 ⟨rfl,hb2⟩;have hb2s:=hb2.size;(try simp only [wsA,wsS,wsD,wsN] at hb2s);obtain ⟨hb2c,hb2f⟩:=bcell hb2;(try have : w.heap.size < w2.heap.size:=by omega);(try have : w.heap.size + 1 < w2.heap.size:=by omega);(try have : w.heap.size + 1 + 1 < w2.heap.size:=by omega);(try have : w.heap.size + 1 + 1 + 1 < w2.heap.size:=by omega);(try have : w1.heap.size < w2.heap.size:=by omega);(try have : w1.heap.size + 1 < w2.heap.size:=by omega);(try have : w1.heap.size + 1 + 1 < w2.heap.size:=by omega);(try have : w1.heap.size + 1 + 1 + 1 < w2.heap.size:=by omega)))) | fail
    all_goals
     go_wp2_with fail
     go_ret
     exact ⟨rfl,by exact bel⟩
   ·rw [dform_in hb (by omega) (by omega)]
    have g3 : decide (s < 0) = false:=by simp;omega
    have g4 : decide (18 < s) = false:=by simp;omega
    by_cases hz : c = 0
    ·rw [if_pos hz]
     rw [decide_eq_true hz] at HZ
     have g2 : (s == 0) = decide (s = 0):=by rw [Bool.eq_iff_iff];simp
     generalize cmpN c B34 = cc at *
     generalize wd c 0 = x0 at *
     generalize wd c 1 = x1 at *
     clear hc hb
     generalize decide (s = 0) = sz at *
     clear hz
     cases b
     ·go_enter Tryz.func70,Tryz.ntmps70
      go_wp2_with fail
      first | (go_region_held3 (fun w' => w'.cell? ⟨w.heap.size,1,none⟩ = some (.int .u64 x1) ∧ w'.cell? ⟨w.heap.size,2,none⟩ = some (.int .u64 x0) ∧ w'.cell? ⟨w.heap.size,3,none⟩ = some (.int .i64 s)) (first | (first | (go_keep;done) | (simp [go_sem];done) | ((try dsimp only);(repeat' apply And.intro) <;> (first | (with_reducible assumption) | ((rw [World.cell?_alloc_lt _ _ _ (by show _ < _;omega)]);go_split_ands;(first | with_reducible assumption | (refine (World.cell?_alloc_lt _ _ _ (by show _ < _;omega)).symm.trans ?_;with_reducible assumption))) | ((rw [World.cell?_setCell_other _ _ _ _ (by intro e;injection e;omega)]);with_reducible assumption) | (go_keep;done) | (simp [go_sem];done) | (simp (disch:=go_size) [*,World.cell?_alloc_some,World.cell?_setCell_far];done))))) (first | ((go_at_call 104;with_reducible refine (HB.out _).mono ?_);rintro _ w1 ⟨rfl,hb1⟩;have hb1s:=hb1.size;(try simp only [wsA,wsS,wsD,wsN] at hb1s);obtain ⟨hb1c,hb1f⟩:=bcell hb1;(try have : w.heap.size < w1.heap.size:=by omega);(try have : w.heap.size + 1 < w1.heap.size:=by omega);(try have : w.heap.size + 1 + 1 < w1.heap.size:=by omega);(try have : w.heap.size + 1 + 1 + 1 < w1.heap.size:=by omega)) | ((go_at_call 103;with_reducible refine (HC.out _).mono ?_);rintro _ w2 ⟨rfl,hb2⟩;have hb2s:=hb2.size;(try simp only [wsA,wsS,wsD,wsN] at hb2s);obtain ⟨hb2c,hb2f⟩:=bcell hb2;(try have : w.heap.size < w2.heap.size:=by omega);(try have : w.heap.size + 1 < w2.heap.size:=by omega);(try have : w.heap.size + 1 + 1 < w2.heap.size:=by omega);(try have : w.heap.size + 1 + 1 + 1 < w2.heap.size:=by omega);(try have : w1.heap.size < w2.heap.size:=by omega);(try have : w1.heap.size + 1 < w2.heap.size:=by omega);(try have : w1.heap.size + 1 + 1 < w2.heap.size:=by omega);(try have : w1.heap.size + 1 + 1 + 1 < w2.heap.size:=by omega)))) | fail
      all_goals
       go_wp2_with ((go_at_call 105;with_reducible refine (HZ.out _).mono ?_);rintro _ w3 ⟨rfl,hb3⟩;have hb3s:=hb3.size;(try simp only [wsA,wsS,wsD,wsN] at hb3s);obtain ⟨hb3c,hb3f⟩:=bcell hb3;(try have : w.heap.size < w3.heap.size:=by omega);(try have : w.heap.size + 1 < w3.heap.size:=by omega);(try have : w.heap.size + 1 + 1 < w3.heap.size:=by omega);(try have : w.heap.size + 1 + 1 + 1 < w3.heap.size:=by omega);(try have : w1.heap.size < w3.heap.size:=by omega);(try have : w1.heap.size + 1 < w3.heap.size:=by omega);(try have : w1.heap.size + 1 + 1 < w3.heap.size:=by omega);(try have : w1.heap.size + 1 + 1 + 1 < w3.heap.size:=by omega);(try have : w2.heap.size < w3.heap.size:=by omega);(try have : w2.heap.size + 1 < w3.heap.size:=by omega);(try have : w2.heap.size + 1 + 1 < w3.heap.size:=by omega);(try have : w2.heap.size + 1 + 1 + 1 < w3.heap.size:=by omega))
       go_ret
       exact ⟨by simp,by exact bel⟩
     ·go_enter Tryz.func70,Tryz.ntmps70
      go_wp2_with fail
      first | (go_region_held3 (fun w' => w'.cell? ⟨w.heap.size,1,none⟩ = some (.int .u64 x1) ∧ w'.cell? ⟨w.heap.size,2,none⟩ = some (.int .u64 x0) ∧ w'.cell? ⟨w.heap.size,3,none⟩ = some (.int .i64 s)) (first | (first | (go_keep;done) | (simp [go_sem];done) | ((try dsimp only);(repeat' apply And.intro) <;> (first | (with_reducible assumption) | ((rw [World.cell?_alloc_lt _ _ _ (by show _ < _;omega)]);go_split_ands;(first | with_reducible assumption | (refine (World.cell?_alloc_lt _ _ _ (by show _ < _;omega)).symm.trans ?_;with_reducible assumption))) | ((rw [World.cell?_setCell_other _ _ _ _ (by intro e;injection e;omega)]);with_reducible assumption) | (go_keep;done) | (simp [go_sem];done) | (simp (disch:=go_size) [*,World.cell?_alloc_some,World.cell?_setCell_far];done))))) (first | ((go_at_call 104;with_reducible refine (HB.out _).mono ?_);rintro _ w1 ⟨rfl,hb1⟩;have hb1s:=hb1.size;(try simp only [wsA,wsS,wsD,wsN] at hb1s);obtain ⟨hb1c,hb1f⟩:=bcell hb1;(try have : w.heap.size < w1.heap.size:=by omega);(try have : w.heap.size + 1 < w1.heap.size:=by omega);(try have : w.heap.size + 1 + 1 < w1.heap.size:=by omega);(try have : w.heap.size + 1 + 1 + 1 < w1.heap.size:=by omega)) | ((go_at_call 103;with_reducible refine (HC.out _).mono ?_);rintro _ w2 ⟨rfl,hb2⟩;have hb2s:=hb2.size;(try simp only [wsA,wsS,wsD,wsN] at hb2s);obtain ⟨hb2c,hb2f⟩:=bcell hb2;(try have : w.heap.size < w2.heap.size:=by omega);(try have : w.heap.size + 1 < w2.heap.size:=by omega);(try have : w.heap.size + 1 + 1 < w2.heap.size:=by omega);(try have : w.heap.size + 1 + 1 + 1 < w2.heap.size:=by omega);(try have : w1.heap.size < w2.heap.size:=by omega);(try have : w1.heap.size + 1 < w2.heap.size:=by omega);(try have : w1.heap.size + 1 + 1 < w2.heap.size:=by omega);(try have : w1.heap.size + 1 + 1 + 1 < w2.heap.size:=by omega)))) | fail
      all_goals
       go_wp2_with ((go_at_call 105;with_reducible refine (HZ.out _).mono ?_);rintro _ w3 ⟨rfl,hb3⟩;have hb3s:=hb3.size;(try simp only [wsA,wsS,wsD,wsN] at hb3s);obtain ⟨hb3c,hb3f⟩:=bcell hb3;(try have : w.heap.size < w3.heap.size:=by omega);(try have : w.heap.size + 1 < w3.heap.size:=by omega);(try have : w.heap.size + 1 + 1 < w3.heap.size:=by omega);(try have : w.heap.size + 1 + 1 + 1 < w3.heap.size:=by omega);(try have : w1.heap.size < w3.heap.size:=by omega);(try have : w1.heap.size + 1 < w3.heap.size:=by omega);(try have : w1.heap.size + 1 + 1 < w3.heap.size:=by omega);(try have : w1.heap.size + 1 + 1 + 1 < w3.heap.size:=by omega);(try have : w2.heap.size < w3.heap.size:=by omega);(try have : w2.heap.size + 1 < w3.heap.size:=by omega);(try have : w2.heap.size + 1 + 1 < w3.heap.size:=by omega);(try have : w2.heap.size + 1 + 1 + 1 < w3.heap.size:=by omega))
       go_ret
       exact ⟨by simp,by exact bel⟩
    ·rw [if_neg hz]
     rw [decide_eq_false hz] at HZ
     obtain ⟨T,k,ht⟩:=tz_upto c 34 hz hb
     have HT:=Lib.hid (fun W => trim_any c T k hc ht W)
     have hk : decide (c % 10 ≠ 0) = decide ((k : Int) = 0):=by
      rw [Bool.eq_iff_iff]
      simp only [decide_eq_true_eq]
      constructor
      ·intro h
       rcases Nat.eq_zero_or_pos k with h0 | h0
       ·omega
       ·exact absurd (by have:=ht.mod_lt (t:=0) h0;rwa [Nat.pow_zero,Nat.div_one] at this) h
      ·intro h
       obtain rfl : k = 0:=by omega
       have:=ht.2
       have e:=ht.1
       rw [Nat.pow_zero,Nat.mul_one] at e
       rw [e];exact this
     rw [hk]
     have k0 : (0 : Int) ≤ (k : Int):=by omega
     generalize cmpN c B34 = cc at *
     generalize wd c 0 = x0 at *
     generalize wd c 1 = x1 at *
     clear hc hb
     generalize wd T 0 = y0 at *
     generalize wd T 1 = y1 at *
     clear hz ht hk
     by_cases hs : s = 0
     ·have g2 : (s == 0) = true:=by simpa using hs
      rw [decide_eq_true hs]
      have HS:=Lib.hid hs
      clear hs
      go_enter Tryz.func70,Tryz.ntmps70
      go_wp2_with fail
      first | (go_region_held3 (fun w' => w'.cell? ⟨w.heap.size,1,none⟩ = some (.int .u64 x1) ∧ w'.cell? ⟨w.heap.size,2,none⟩ = some (.int .u64 x0) ∧ w'.cell? ⟨w.heap.size,3,none⟩ = some (.int .i64 s)) (first | (first | (go_keep;done) | (simp [go_sem];done) | ((try dsimp only);(repeat' apply And.intro) <;> (first | (with_reducible assumption) | ((rw [World.cell?_alloc_lt _ _ _ (by show _ < _;omega)]);go_split_ands;(first | with_reducible assumption | (refine (World.cell?_alloc_lt _ _ _ (by show _ < _;omega)).symm.trans ?_;with_reducible assumption))) | ((rw [World.cell?_setCell_other _ _ _ _ (by intro e;injection e;omega)]);with_reducible assumption) | (go_keep;done) | (simp [go_sem];done) | (simp (disch:=go_size) [*,World.cell?_alloc_some,World.cell?_setCell_far];done))))) (first | ((go_at_call 104;with_reducible refine (HB.out _).mono ?_);rintro _ w1 ⟨rfl,hb1⟩;have hb1s:=hb1.size;(try simp only [wsA,wsS,wsD,wsN] at hb1s);obtain ⟨hb1c,hb1f⟩:=bcell hb1;(try have : w.heap.size < w1.heap.size:=by omega);(try have : w.heap.size + 1 < w1.heap.size:=by omega);(try have : w.heap.size + 1 + 1 < w1.heap.size:=by omega);(try have : w.heap.size + 1 + 1 + 1 < w1.heap.size:=by omega)) | ((go_at_call 103;with_reducible refine (HC.out _).mono ?_);rintro _ w2 ⟨rfl,hb2⟩;have hb2s:=hb2.size;(try simp only [wsA,wsS,wsD,wsN] at hb2s);obtain ⟨hb2c,hb2f⟩:=bcell hb2;(try have : w.heap.size < w2.heap.size:=by omega);(try have : w.heap.size + 1 < w2.heap.size:=by omega);(try have : w.heap.size + 1 + 1 < w2.heap.size:=by omega);(try have : w.heap.size + 1 + 1 + 1 < w2.heap.size:=by omega);(try have : w1.heap.size < w2.heap.size:=by omega);(try have : w1.heap.size + 1 < w2.heap.size:=by omega);(try have : w1.heap.size + 1 + 1 < w2.heap.size:=by omega);(try have : w1.heap.size + 1 + 1 + 1 < w2.heap.size:=by omega)))) | fail
      all_goals
       go_wp2_with (first | ((go_at_call 105;with_reducible refine (HZ.out _).mono ?_);rintro _ w3 ⟨rfl,hb3⟩;have hb3s:=hb3.size;(try simp only [wsA,wsS,wsD,wsN] at hb3s);obtain ⟨hb3c,hb3f⟩:=bcell hb3;(try have : w.heap.size < w3.heap.size:=by omega);(try have : w.heap.size + 1 < w3.heap.size:=by omega);(try have : w.heap.size + 1 + 1 < w3.heap.size:=by omega);(try have : w.heap.size + 1 + 1 + 1 < w3.heap.size:=by omega);(try have : w1.heap.size < w3.heap.size:=by omega);(try have : w1.heap.size + 1 < w3.heap.size:=by omega);(try have : w1.heap.size + 1 + 1 < w3.heap.size:=by omega);(try have : w1.heap.size + 1 + 1 + 1 < w3.heap.size:=by omega);(try have : w2.heap.size < w3.heap.size:=by omega);(try have : w2.heap.size + 1 < w3.heap.size:=by omega);(try have : w2.heap.size + 1 + 1 < w3.heap.size:=by omega);(try have : w2.heap.size + 1 + 1 + 1 < w3.heap.size:=by omega)) | ((go_at_call 106;with_reducible refine (HT.out _).mono ?_);rintro _ w4 ⟨rfl,hb4⟩;have hb4s:=hb4.size;(try simp only [wsA,wsS,wsD,wsN] at hb4s);obtain ⟨hb4c,hb4f⟩:=bcell hb4;(try have : w.heap.size < w4.heap.size:=by omega);(try have : w.heap.size + 1 < w4.heap.size:=by omega);(try have : w.heap.size + 1 + 1 < w4.heap.size:=by omega);(try have : w.heap.size + 1 + 1 + 1 < w4.heap.size:=by omega);(try have : w1.heap.size < w4.heap.size:=by omega);(try have : w1.heap.size + 1 < w4.heap.size:=by omega);(try have : w1.heap.size + 1 + 1 < w4.heap.size:=by omega);(try have : w1.heap.size + 1 + 1 + 1 < w4.heap.size:=by omega);(try have : w2.heap.size < w4.heap.size:=by omega);(try have : w2.heap.size + 1 < w4.heap.size:=by omega);(try have : w2.heap.size + 1 + 1 < w4.heap.size:=by omega);(try have : w2.heap.size + 1 + 1 + 1 < w4.heap.size:=by omega);(try have : w3.heap.size < w4.heap.size:=by omega);(try have : w3.heap.size + 1 < w4.heap.size:=by omega);(try have : w3.heap.size + 1 + 1 < w4.heap.size:=by omega);(try have : w3.heap.size + 1 + 1 + 1 < w4.heap.size:=by omega)))
       go_ret
       exact ⟨rfl,by exact bel⟩
     ·have g2 : (s == 0) = false:=by simpa using hs
      rw [decide_eq_false hs]
      clear hs
      go_enter Tryz.func70,Tryz.ntmps70
      go_wp2_with fail
      first | (go_region_held3 (fun w' => w'.cell? ⟨w.heap.size,1,none⟩ = some (.int .u64 x1) ∧ w'.cell? ⟨w.heap.size,2,none⟩ = some (.int .u64 x0) ∧ w'.cell? ⟨w.heap.size,3,none⟩ = some (.int .i64 s)) (first | (first | (go_keep;done) | (simp [go_sem];done) | ((try dsimp only);(repeat' apply And.intro) <;> (first | (with_reducible assumption) | ((rw [World.cell?_alloc_lt _ _ _ (by show _ < _;omega)]);go_split_ands;(first | with_reducible assumption | (refine (World.cell?_alloc_lt _ _ _ (by show _ < _;omega)).symm.trans ?_;with_reducible assumption))) | ((rw [World.cell?_setCell_other _ _ _ _ (by intro e;injection e;omega)]);with_reducible assumption) | (go_keep;done) | (simp [go_sem];done) | (simp (disch:=go_size) [*,World.cell?_alloc_some,World.cell?_setCell_far];done))))) (first | ((go_at_call 104;with_reducible refine (HB.out _).mono ?_);rintro _ w1 ⟨rfl,hb1⟩;have hb1s:=hb1.size;(try simp only [wsA,wsS,wsD,wsN] at hb1s);obtain ⟨hb1c,hb1f⟩:=bcell hb1;(try have : w.heap.size < w1.heap.size:=by omega);(try have : w.heap.size + 1 < w1.heap.size:=by omega);(try have : w.heap.size + 1 + 1 < w1.heap.size:=by omega);(try have : w.heap.size + 1 + 1 + 1 < w1.heap.size:=by omega)) | ((go_at_call 103;with_reducible refine (HC.out _).mono ?_);rintro _ w2 ⟨rfl,hb2⟩;have hb2s:=hb2.size;(try simp only [wsA,wsS,wsD,wsN] at hb2s);obtain ⟨hb2c,hb2f⟩:=bcell hb2;(try have : w.heap.size < w2.heap.size:=by omega);(try have : w.heap.size + 1 < w2.heap.size:=by omega);(try have : w.heap.size + 1 + 1 < w2.heap.size:=by omega);(try have : w.heap.size + 1 + 1 + 1 < w2.heap.size:=by omega);(try have : w1.heap.size < w2.heap.size:=by omega);(try have : w1.heap.size + 1 < w2.heap.size:=by omega);(try have : w1.heap.size + 1 + 1 < w2.heap.size:=by omega);(try have : w1.heap.size + 1 + 1 + 1 < w2.heap.size:=by omega)))) | fail
      all_goals
       go_wp2_with (first | ((go_at_call 105;with_reducible refine (HZ.out _).mono ?_);rintro _ w3 ⟨rfl,hb3⟩;have hb3s:=hb3.size;(try simp only [wsA,wsS,wsD,wsN] at hb3s);obtain ⟨hb3c,hb3f⟩:=bcell hb3;(try have : w.heap.size < w3.heap.size:=by omega);(try have : w.heap.size + 1 < w3.heap.size:=by omega);(try have : w.heap.size + 1 + 1 < w3.heap.size:=by omega);(try have : w.heap.size + 1 + 1 + 1 < w3.heap.size:=by omega);(try have : w1.heap.size < w3.heap.size:=by omega);(try have : w1.heap.size + 1 < w3.heap.size:=by omega);(try have : w1.heap.size + 1 + 1 < w3.heap.size:=by omega);(try have : w1.heap.size + 1 + 1 + 1 < w3.heap.size:=by omega);(try have : w2.heap.size < w3.heap.size:=by omega);(try have : w2.heap.size + 1 < w3.heap.size:=by omega);(try have : w2.heap.size + 1 + 1 < w3.heap.size:=by omega);(try have : w2.heap.size + 1 + 1 + 1 < w3.heap.size:=by omega)) | ((go_at_call 106;with_reducible refine (HT.out _).mono ?_);rintro _ w4 ⟨rfl,hb4⟩;have hb4s:=hb4.size;(try simp only [wsA,wsS,wsD,wsN] at hb4s);obtain ⟨hb4c,hb4f⟩:=bcell hb4;(try have : w.heap.size < w4.heap.size:=by omega);(try have : w.heap.size + 1 < w4.heap.size:=by omega);(try have : w.heap.size + 1 + 1 < w4.heap.size:=by omega);(try have : w.heap.size + 1 + 1 + 1 < w4.heap.size:=by omega);(try have : w1.heap.size < w4.heap.size:=by omega);(try have : w1.heap.size + 1 < w4.heap.size:=by omega);(try have : w1.heap.size + 1 + 1 < w4.heap.size:=by omega);(try have : w1.heap.size + 1 + 1 + 1 < w4.heap.size:=by omega);(try have : w2.heap.size < w4.heap.size:=by omega);(try have : w2.heap.size + 1 < w4.heap.size:=by omega);(try have : w2.heap.size + 1 + 1 < w4.heap.size:=by omega);(try have : w2.heap.size + 1 + 1 + 1 < w4.heap.size:=by omega);(try have : w3.heap.size < w4.heap.size:=by omega);(try have : w3.heap.size + 1 < w4.heap.size:=by omega);(try have : w3.heap.size + 1 + 1 < w4.heap.size:=by omega);(try have : w3.heap.size + 1 + 1 + 1 < w4.heap.size:=by omega)))
       go_ret
       exact ⟨ret_bool (by rw [Bool.eq_iff_iff];simp),by exact bel⟩
 ·have g1:=cmp_bound' hb
  have g1' : decide (0 ≤ cmpN c B34) = true:=by simp;omega
  rw [dform_hi hb]
  generalize cmpN c B34 = cc at *
  generalize wd c 0 = x0 at *
  generalize wd c 1 = x1 at *
  clear hc hb
  generalize decide (c = 0) = zz at *
  go_enter Tryz.func70,Tryz.ntmps70
  go_wp2_with fail
  first | (go_region_with (first | ((go_at_call 104;with_reducible refine (HB.out _).mono ?_);rintro _ w1 ⟨rfl,hb1⟩;have hb1s:=hb1.size;(try simp only [wsA,wsS,wsD,wsN] at hb1s);obtain ⟨hb1c,hb1f⟩:=bcell hb1;(try have : w.heap.size < w1.heap.size:=by omega);(try have : w.heap.size + 1 < w1.heap.size:=by omega);(try have : w.heap.size + 1 + 1 < w1.heap.size:=by omega);(try have : w.heap.size + 1 + 1 + 1 < w1.heap.size:=by omega)) | ((go_at_call 103;with_reducible refine (HC.out _).mono ?_);rintro _ w2 ⟨rfl,hb2⟩;have hb2s:=hb2.size;(try simp only [wsA,wsS,wsD,wsN] at hb2s);obtain ⟨hb2c,hb2f⟩:=bcell hb2;(try have : w.heap.size < w2.heap.size:=by omega);(try have : w.heap.size + 1 < w2.heap.size:=by omega);(try have : w.heap.size + 1 + 1 < w2.heap.size:=by omega);(try have : w.heap.size + 1 + 1 + 1 < w2.heap.size:=by omega);(try have : w1.heap.size < w2.heap.size:=by omega);(try have : w1.heap.size + 1 < w2.heap.size:=by omega);(try have : w1.heap.size + 1 + 1 < w2.heap.size:=by omega);(try have : w1.heap.size + 1 + 1 + 1 < w2.heap.size:=by omega)))) | fail
  all_goals
   go_wp2_with fail
   go_ret
   exact ⟨rfl,by exact bel⟩
end Go.Proofs.YtbnadlpkbbdgjaaGreatDoor

