/- The contracts of the functions that the laws reach, part 7: what each returns and what becomes of memory. -/
import Derived.Test.YtbnadlpkbbdgjaaGreatDoorM6
set_option linter.unusedSimpArgs false
set_option linter.unusedVariables false


namespace Go.Proofs.YtbnadlpkbbdgjaaGreatDoor
open Go.RowKit

set_option maxRecDepth 100000 in
set_option maxHeartbeats 4000000 in
theorem beside_any (b : Bool) (c s : Nat) (down : Bool) (hc : c < B34) (hs : s ≤ 18) (hd : down = true → c ≠ 0) (w : World) :
  Calls Tryz.prog 101 #[.agg #[.bool b,.int .u64 (wd (c) 1),.int .u64 (wd (c) 0),.int .i64 s],.bool down] w fun e w' => e = .returned (.tuple #[.agg #[.bool false,.int .u64 (wd ((NbC (nb c s down))) 1),.int .u64 (wd ((NbC (nb c s down))) 0),.int .i64 (NbS (nb c s down))],.int .i64 (NbE (nb c s down))]) ∧ Below w.heap.size w w':=by
 have hU : unit c s < 10 ^ 52:=unit_lt hc
 have hx0 : down = true → 0 < unit c s:=fun h => Nat.mul_pos (Nat.pos_of_ne_zero (hd h)) (Nat.pow_pos (by decide))
 have HI : Hid (∀ W,Calls Tryz.prog 71 #[.agg #[.int .u64 (wd c 1),.int .u64 (wd c 0)],.int .i64 (18 - (s : Int))] W fun e w' => e = .returned (.agg #[.int .u64 (wd (unit c s) 0),.int .u64 (wd (unit c s) 1),.int .u64 (wd (unit c s) 2),.int .u64 (wd (unit c s) 3)]) ∧ Below W.heap.size W w'):=Lib.hid (fun W => by
  have:=times_sub c 18 s hc hs (Nat.le_refl _) W
  exact this)
 have gs0 : IntKind.i64.wrap (18 - (s : Int)) = 18 - (s : Int):=IntWalk.i64_in _ (by omega)
 have HBT:=Lib.hid (fun (j : Nat) (hj : j ≤ 18) W => times_any4 B34 (18 - j) B34_lt (by omega) (Nat.lt_of_le_of_lt (bound_units j) (by decide)) W)
 have HB34 : Hid (∀ W,Calls Tryz.prog 150 #[.int .i64 34] W fun e w' => e = .returned (.agg #[.int .u64 (wd B34 1),.int .u64 (wd B34 0)]) ∧ Below W.heap.size W w'):=Lib.hid (fun W => power_any 34 (by decide) W)
 obtain ⟨r,hr⟩ : ∃ r,r = nb c s down:=⟨_,rfl⟩
 have ER:=Far.mk hr
 unfold nb at hr
 have HR:=Far.mk hr
 obtain ⟨X,hX⟩ : ∃ X,X = unit c s:=⟨_,rfl⟩
 rw [← hX] at hU hx0 HI HR
 rw [← ER.out]
 obtain ⟨C,hC⟩ : ∃ C,C = NbC r:=⟨_,rfl⟩
 obtain ⟨S,hS⟩ : ∃ S,S = NbS r:=⟨_,rfl⟩
 obtain ⟨E,hE⟩ : ∃ E,E = NbE r:=⟨_,rfl⟩
 rw [← hC,← hS,← hE]
 have EC:=Far.mk hC
 have ES:=Far.mk hS
 have EE:=Far.mk hE
 have HUU:=Far.mk hU
 have HX0:=Lib.hid hx0
 have H19:=Far.mk (K19_eq c)
 generalize wd c 0 = x0 at *
 generalize wd c 1 = x1 at *
 clear hr hX hC hS hE hU hx0 hc hd ER
 obtain ⟨p0,hp0⟩ : ∃ p,p = wd B34 0:=⟨_,rfl⟩
 obtain ⟨p1,hp1⟩ : ∃ p,p = wd B34 1:=⟨_,rfl⟩
 rw [← hp0,← hp1] at HBT HB34
 clear hp0 hp1
 go_enter Tryz.func101,Tryz.ntmps101
 go_wp2_with fail
 refine (HI.out _).mono ?_
 rintro _ w1 ⟨rfl,hb1⟩;have hb1s:=hb1.size;(try simp only [wsA,wsS,wsD,wsN] at hb1s);obtain ⟨hb1c,hb1f⟩:=bcell hb1;(try have : w.heap.size < w1.heap.size:=by omega);(try have : w.heap.size + 1 < w1.heap.size:=by omega);(try have : w.heap.size + 1 + 1 < w1.heap.size:=by omega);(try have : w.heap.size + 1 + 1 + 1 < w1.heap.size:=by omega)
 go_wp2_with fail
 go_loopg [7] 19 (fun kk sv wr => kk ≤ 19 ∧ sv = .int .i64 ((kk : Int) - 1) ∧ Far (r = upK X down kk) ∧ Far (kk = 19 ∨ B34 * 10 ^ (18 - kk) < X ∨ down = false) ∧ Bk wr w1.heap.size 80 (lcells X) ∧ Bk wr (w.heap.size + 1) 27 [.bool false,.int .u64 0,.int .u64 0,.int .i64 0] ∧ w1.heap.size < wr.heap.size ∧ Below w.heap.size w wr)
 case atStart => exact ⟨Nat.le_refl _,rfl,Far.mk (by rw [HR.out,H19.out]),Far.mk (.inl rfl),by rw [lcells_eq];exact bkk,by exact bkk,by go_size,by exact bel⟩
 case round =>
  obtain ⟨hk19,rfl,hrr,hroom,b0,b1,hsz,hbel⟩:=hrel
  have HB0:=Lib.hid b0
  have HB1:=Lib.hid b1
  have hbs:=hbel.size
  have l1:=b1.lt
  have w1l : w.heap.size + 1 < w1.heap.size:=by omega
  by_cases hz : gk = 0
  ·subst hz
   have hm : ¬ (0 : Int) ≤ ((0 : Nat) : Int) - 1:=by omega
   have b1_0:=b1.cell 0 rfl
   have b1_1:=b1.cell 1 rfl
   have b1_2:=b1.cell 2 rfl
   have b1_3:=b1.cell 3 rfl
   have b1_4:=b1.frozen 0
   have b1_5:=b1.frozen 1
   have b1_6:=b1.frozen 2
   have b1_7:=b1.frozen 3
   clear b0 b1
   go_wp2_with fail
   refine bodyPost_ret (by simp [results,Tryz.results101,go_sem, *];try rfl) rfl ?_
   have e:=hrr.out
   exact ⟨by rw [EC.out,ES.out,EE.out,e,show upK X down 0 = (0,false) from rfl,(nb_no 0).1,(nb_no 0).2.1,(nb_no 0).2.2,wd_zero,wd_zero];rfl,by exact bel⟩
  ·obtain ⟨j,rfl⟩ : ∃ j,gk = j + 1:=⟨gk - 1,by omega⟩
   have hx : ((j + 1 : Nat) : Int) - 1 = (j : Int):=by omega
   rw [hx]
   have j0 : (0 : Int) ≤ (j : Int):=by omega
   have j18 : (j : Int) ≤ 18:=by omega
   have jn : j ≤ 18:=by omega
   have gw : IntKind.i64.wrap (18 - (j : Int)) = 18 - (j : Int):=IntWalk.i64_in _ (by omega)
   have HT : Hid (∀ W,Calls Tryz.prog 71 #[.agg #[.int .u64 p1,.int .u64 p0],.int .i64 (18 - (j : Int))] W fun e w' => e = .returned (.agg #[.int .u64 (wd (B34 * 10 ^ (18 - j)) 0),.int .u64 (wd (B34 * 10 ^ (18 - j)) 1),.int .u64 (wd (B34 * 10 ^ (18 - j)) 2),.int .u64 (wd (B34 * 10 ^ (18 - j)) 3)]) ∧ Below W.heap.size W w'):=Lib.hid (fun W => by
    rw [show (18 : Int) - (j : Int) = ((18 - j : Nat) : Int) by omega]
    exact HBT.out j jn W)
   have hBd : B34 * 10 ^ (18 - j) < 2 ^ 256:=Nat.lt_of_le_of_lt (bound_units j) (by decide)
   have hX2 : X < 2 ^ 256:=Nat.lt_trans HUU.out (by decide)
   have HO:=Lib.hid (fun W => order_any X (B34 * 10 ^ (18 - j)) hX2 hBd W)
   have HP : Hid (∀ W,Calls Tryz.prog 150 #[.int .i64 (18 - (j : Int))] W fun e w' => e = .returned (.agg #[.int .u64 (wd (10 ^ (18 - j)) 1),.int .u64 (wd (10 ^ (18 - j)) 0)]) ∧ Below W.heap.size W w'):=Lib.hid (fun W => by
    rw [show (18 : Int) - (j : Int) = ((18 - j : Nat) : Int) by omega]
    exact power_any (18 - j) (by omega) W)
   have HL:=Lib.hid (fun W => long_any (10 ^ (18 - j)) (ten_38 (by omega)) W)
   obtain ⟨st,hst⟩ : ∃ st,st = 10 ^ (18 - j):=⟨_,rfl⟩
   obtain ⟨Bd,hB⟩ : ∃ Bd,Bd = B34 * 10 ^ (18 - j):=⟨_,rfl⟩
   rw [← hst] at HP HL
   rw [← hB] at HT HO hBd
   have HST:=Far.mk hst
   have HBD:=Far.mk hB
   have hstl : st < 2 ^ 250:=by rw [hst];exact Nat.lt_of_le_of_lt (step_le j) (by decide)
   have hX3 : X < 2 ^ 250:=Nat.lt_trans HUU.out (by decide)
   clear hst hB hz
   cases down
   ·have HRR : Far (r = upK X false (j + 1)):=hrr
    by_cases hlt : X < Bd
    ·have hcc : cmpN X Bd < 0:=by unfold cmpN;rw [if_neg (by omega),if_pos hlt];decide
     have hcn : ¬ 0 ≤ cmpN X Bd:=by omega
     have hsum : X + st < 2 ^ 256:=by omega
     have HPL:=Lib.hid (fun W => plus4_any X st hsum W)
     have HF : Hid (∀ W,Calls Tryz.prog 151 #[.bool false,.agg #[.int .u64 (wd (X + st) 0),.int .u64 (wd (X + st) 1),.int .u64 (wd (X + st) 2),.int .u64 (wd (X + st) 3)],.int .i64 18] W fun e w' => e = .returned (.tuple #[.agg #[.bool (sg false (FitC ((X + st)) (10 ^ 18))),.int .u64 (wd (FitC ((X + st)) (10 ^ 18)) 1),.int .u64 (wd (FitC ((X + st)) (10 ^ 18)) 0),.int .i64 (FitS ((X + st)) (10 ^ 18))],.int .i64 (FitE (X + st) (10 ^ 18))]) ∧ Below W.heap.size W w'):=Lib.hid (fun W => fit_any false (X + st) 18 hsum (by decide) W)
     generalize cmpN X Bd = cc at *
     have HLT:=Far.mk hlt
     by_cases hj : j = 0
     ·subst hj
      have gz : IntKind.i64.wrap 18 = 18:=IntWalk.i64_in _ (by omega)
      have HTz : Hid (∀ W,Calls Tryz.prog 71 #[.agg #[.int .u64 p1,.int .u64 p0],.int .i64 18] W fun e w' => e = .returned (.agg #[.int .u64 (wd Bd 0),.int .u64 (wd Bd 1),.int .u64 (wd Bd 2),.int .u64 (wd Bd 3)]) ∧ Below W.heap.size W w'):=Lib.hid (fun W => by
       have hh:=HT.out W
       rwa [show (18 : Int) - ((0 : Nat) : Int) = 18 by decide] at hh)
      have HPz : Hid (∀ W,Calls Tryz.prog 150 #[.int .i64 18] W fun e w' => e = .returned (.agg #[.int .u64 (wd st 1),.int .u64 (wd st 0)]) ∧ Below W.heap.size W w'):=Lib.hid (fun W => by
       have hh:=HP.out W
       rwa [show (18 : Int) - ((0 : Nat) : Int) = 18 by decide] at hh)
      have HYO:=Lib.hid (fun W => order_any (X + st) (B34 * 10 ^ 18) hsum (by have:=bound_units 0;exact Nat.lt_of_le_of_lt this (by decide)) W)
      have HT0 : Hid (∀ W,Calls Tryz.prog 71 #[.agg #[.int .u64 p1,.int .u64 p0],.int .i64 18] W fun e w' => e = .returned (.agg #[.int .u64 (wd (B34 * 10 ^ 18) 0),.int .u64 (wd (B34 * 10 ^ 18) 1),.int .u64 (wd (B34 * 10 ^ 18) 2),.int .u64 (wd (B34 * 10 ^ 18) 3)]) ∧ Below W.heap.size W w'):=Lib.hid (fun W => HBT.out 0 (by decide) W)
      by_cases hy : X + st < B34 * 10 ^ 18
      ·have hyc : cmpN (X + st) (B34 * 10 ^ 18) < 0:=by unfold cmpN;rw [if_neg (by omega),if_pos hy];decide
       have hyn : ¬ 0 ≤ cmpN (X + st) (B34 * 10 ^ 18):=by omega
       have hyd : decide (0 ≤ cmpN (X + st) (B34 * 10 ^ 18)) = false:=decide_eq_false hyn
       have he:=HRR.out
       rw [upK_up (by rw [← HBD.out];exact HLT.out) (fun _ => by have hh:=hy;rw [HST.out] at hh;exact hh),← HST.out] at he
       have HE:=Far.mk he
       clear hlt he hrr hroom HRR hBd hX2 hstl hX3 hsum b0 b1 hy
       generalize cmpN (X + st) (B34 * 10 ^ 18) = c2 at *
       generalize B34 * 10 ^ 18 = B18 at *
       have b0:=HB0.out
       have b1:=HB1.out
       rw [lcells_eq] at b0
       have b0_0:=b0.cell 0 rfl
       have b0_1:=b0.cell 1 rfl
       have b0_2:=b0.cell 2 rfl
       have b0_3:=b0.cell 3 rfl
       have b0_4:=b0.frozen 0
       have b0_5:=b0.frozen 1
       have b0_6:=b0.frozen 2
       have b0_7:=b0.frozen 3
       go_wp2_with fail
       go_region_held3 (fun w' => (w'.cell? ⟨w1.heap.size,0,none⟩ = some (.int .u64 (wd X 0)) ∧ w'.cell? ⟨w1.heap.size,1,none⟩ = some (.int .u64 (wd X 1)) ∧ w'.cell? ⟨w1.heap.size,2,none⟩ = some (.int .u64 (wd X 2)) ∧ w'.cell? ⟨w1.heap.size,3,none⟩ = some (.int .u64 (wd X 3)))) (first | (first | (go_keep;done) | (simp [go_sem];done) | ((try dsimp only);(repeat' apply And.intro) <;> (first | (with_reducible assumption) | ((rw [World.cell?_alloc_lt _ _ _ (by show _ < _;omega)]);go_split_ands;(first | with_reducible assumption | (refine (World.cell?_alloc_lt _ _ _ (by show _ < _;omega)).symm.trans ?_;with_reducible assumption))) | ((rw [World.cell?_setCell_other _ _ _ _ (by intro e;injection e;omega)]);with_reducible assumption) | (go_keep;done) | (simp [go_sem];done) | (simp (disch:=go_size) [*,World.cell?_alloc_some,World.cell?_setCell_far];done)))) | ((refine ⟨Bk.cell (t:=80) (cs:=[.int .u64 (wd X 0),.int .u64 (wd X 1),.int .u64 (wd X 2),.int .u64 (wd X 3)]) ?_ 0 rfl,Bk.cell (t:=80) (cs:=[.int .u64 (wd X 0),.int .u64 (wd X 1),.int .u64 (wd X 2),.int .u64 (wd X 3)]) ?_ 1 rfl,Bk.cell (t:=80) (cs:=[.int .u64 (wd X 0),.int .u64 (wd X 1),.int .u64 (wd X 2),.int .u64 (wd X 3)]) ?_ 2 rfl,Bk.cell (t:=80) (cs:=[.int .u64 (wd X 0),.int .u64 (wd X 1),.int .u64 (wd X 2),.int .u64 (wd X 3)]) ?_ 3 rfl⟩) <;> ((repeat (first|(with_reducible assumption)|((with_reducible refine bkW ?_);(first|rfl|(simp only [wsA,wsS,wsD,wsN];done)))|(with_reducible first|refine bkA ?_ _|refine bkD ?_|refine bkN ?_ _)|((with_reducible refine bkF ?_ ?_ _);focus (simp only [];omega))|((with_reducible refine bkB (by assumption) ?_ ?_);focus (go_size;done))));done))) (first | (go_at_call 150;(with_reducible refine (HB34.out _).mono ?_);rintro _ w2 ⟨rfl,hb2⟩;have hb2s:=hb2.size;(try simp only [wsA,wsS,wsD,wsN] at hb2s);obtain ⟨hb2c,hb2f⟩:=bcell hb2;(try have : w.heap.size < w2.heap.size:=by omega);(try have : w.heap.size + 1 < w2.heap.size:=by omega);(try have : w.heap.size + 1 + 1 < w2.heap.size:=by omega);(try have : w.heap.size + 1 + 1 + 1 < w2.heap.size:=by omega);(try have : w1.heap.size < w2.heap.size:=by omega);(try have : w1.heap.size + 1 < w2.heap.size:=by omega);(try have : w1.heap.size + 1 + 1 < w2.heap.size:=by omega);(try have : w1.heap.size + 1 + 1 + 1 < w2.heap.size:=by omega)) | (go_at_call 71;(with_reducible refine (HT.out _).mono ?_);rintro _ w3 ⟨rfl,hb3⟩;have hb3s:=hb3.size;(try simp only [wsA,wsS,wsD,wsN] at hb3s);obtain ⟨hb3c,hb3f⟩:=bcell hb3;(try have : w.heap.size < w3.heap.size:=by omega);(try have : w.heap.size + 1 < w3.heap.size:=by omega);(try have : w.heap.size + 1 + 1 < w3.heap.size:=by omega);(try have : w.heap.size + 1 + 1 + 1 < w3.heap.size:=by omega);(try have : w1.heap.size < w3.heap.size:=by omega);(try have : w1.heap.size + 1 < w3.heap.size:=by omega);(try have : w1.heap.size + 1 + 1 < w3.heap.size:=by omega);(try have : w1.heap.size + 1 + 1 + 1 < w3.heap.size:=by omega);(try have : w2.heap.size < w3.heap.size:=by omega);(try have : w2.heap.size + 1 < w3.heap.size:=by omega);(try have : w2.heap.size + 1 + 1 < w3.heap.size:=by omega);(try have : w2.heap.size + 1 + 1 + 1 < w3.heap.size:=by omega)) | (go_at_call 71;(with_reducible refine (HTz.out _).mono ?_);rintro _ w3 ⟨rfl,hb3⟩;have hb3s:=hb3.size;(try simp only [wsA,wsS,wsD,wsN] at hb3s);obtain ⟨hb3c,hb3f⟩:=bcell hb3;(try have : w.heap.size < w3.heap.size:=by omega);(try have : w.heap.size + 1 < w3.heap.size:=by omega);(try have : w.heap.size + 1 + 1 < w3.heap.size:=by omega);(try have : w.heap.size + 1 + 1 + 1 < w3.heap.size:=by omega);(try have : w1.heap.size < w3.heap.size:=by omega);(try have : w1.heap.size + 1 < w3.heap.size:=by omega);(try have : w1.heap.size + 1 + 1 < w3.heap.size:=by omega);(try have : w1.heap.size + 1 + 1 + 1 < w3.heap.size:=by omega);(try have : w2.heap.size < w3.heap.size:=by omega);(try have : w2.heap.size + 1 < w3.heap.size:=by omega);(try have : w2.heap.size + 1 + 1 < w3.heap.size:=by omega);(try have : w2.heap.size + 1 + 1 + 1 < w3.heap.size:=by omega)) | (go_at_call 49;(with_reducible refine (HO.out _).mono ?_);rintro _ w4 ⟨rfl,hb4⟩;have hb4s:=hb4.size;(try simp only [wsA,wsS,wsD,wsN] at hb4s);obtain ⟨hb4c,hb4f⟩:=bcell hb4;(try have : w.heap.size < w4.heap.size:=by omega);(try have : w.heap.size + 1 < w4.heap.size:=by omega);(try have : w.heap.size + 1 + 1 < w4.heap.size:=by omega);(try have : w.heap.size + 1 + 1 + 1 < w4.heap.size:=by omega);(try have : w1.heap.size < w4.heap.size:=by omega);(try have : w1.heap.size + 1 < w4.heap.size:=by omega);(try have : w1.heap.size + 1 + 1 < w4.heap.size:=by omega);(try have : w1.heap.size + 1 + 1 + 1 < w4.heap.size:=by omega);(try have : w3.heap.size < w4.heap.size:=by omega);(try have : w3.heap.size + 1 < w4.heap.size:=by omega);(try have : w3.heap.size + 1 + 1 < w4.heap.size:=by omega);(try have : w3.heap.size + 1 + 1 + 1 < w4.heap.size:=by omega)))
       all_goals
        refine wp_named (fun W => Bk W w1.heap.size 80 [.int .u64 (wd X 0),.int .u64 (wd X 1),.int .u64 (wd X 2),.int .u64 (wd X 3)] ∧ Bk W (w.heap.size + 1) 27 [.bool false,.int .u64 0,.int .u64 0,.int .i64 0] ∧ Below w.heap.size w W) ⟨?h1, ?h2, ?h3⟩ ?_
        case h1 => ((repeat (first|(with_reducible assumption)|((with_reducible refine bkW ?_);(first|rfl|(simp only [wsA,wsS,wsD,wsN];done)))|(with_reducible first|refine bkA ?_ _|refine bkD ?_|refine bkN ?_ _)|((with_reducible refine bkF ?_ ?_ _);focus (simp only [];omega))|((with_reducible refine bkB (by assumption) ?_ ?_);focus (go_size;done))));done)
        case h2 => ((repeat (first|(with_reducible assumption)|((with_reducible refine bkW ?_);(first|rfl|(simp only [wsA,wsS,wsD,wsN];done)))|(with_reducible first|refine bkA ?_ _|refine bkD ?_|refine bkN ?_ _)|((with_reducible refine bkF ?_ ?_ _);focus (simp only [];omega))|((with_reducible refine bkB (by assumption) ?_ ?_);focus (go_size;done))));done)
        case h3 => ((repeat' first|(with_reducible first|exact blR _ _|assumption|refine blD ?_|refine blN ?_ _)|((with_reducible first|refine blA ?_ ?_ _|refine blS ?_ ?_ _|refine blT (by assumption) ?_ ?_);focus (go_size;done)));done)
        rintro W1 ⟨k0,k1,kw⟩
        have k0l:=k0.lt
        have k1l:=k1.lt
        clear b0_0 b0_1 b0_2 b0_3 b0_4 b0_5 b0_6 b0_7
        clear hb2 hb3 hb4 hb2c hb3c hb4c hb2f hb3f hb4f
        go_wp2_with fail
        first | (with_reducible refine (HP.out _).mono ?_) | (with_reducible refine (HPz.out _).mono ?_)
        rintro _ w5 ⟨rfl,hb5⟩;have hb5s:=hb5.size;(try simp only [wsA,wsS,wsD,wsN] at hb5s);obtain ⟨hb5c,hb5f⟩:=bcell hb5;(try have : w.heap.size < w5.heap.size:=by omega);(try have : w.heap.size + 1 < w5.heap.size:=by omega);(try have : w.heap.size + 1 + 1 < w5.heap.size:=by omega);(try have : w.heap.size + 1 + 1 + 1 < w5.heap.size:=by omega)
        have m0 : Bk w5 w1.heap.size 80 [.int .u64 (wd X 0),.int .u64 (wd X 1),.int .u64 (wd X 2),.int .u64 (wd X 3)]:=by exact bkk
        have m1 : Bk w5 (w.heap.size + 1) 27 [.bool false,.int .u64 0,.int .u64 0,.int .i64 0]:=by exact bkk
        have m0l:=m0.lt
        have m1l:=m1.lt
        clear hb5c hb5f
        go_wp2_with fail
        refine (HL.out _).mono ?_
        rintro _ w6 ⟨rfl,hb6⟩;have hb6s:=hb6.size;(try simp only [wsA,wsS,wsD,wsN] at hb6s);obtain ⟨hb6c,hb6f⟩:=bcell hb6;(try have : w.heap.size < w6.heap.size:=by omega);(try have : w.heap.size + 1 < w6.heap.size:=by omega);(try have : w.heap.size + 1 + 1 < w6.heap.size:=by omega);(try have : w.heap.size + 1 + 1 + 1 < w6.heap.size:=by omega)
        have n0 : Bk w6 w1.heap.size 80 [.int .u64 (wd X 0),.int .u64 (wd X 1),.int .u64 (wd X 2),.int .u64 (wd X 3)]:=by exact bkk
        have n1 : Bk w6 (w.heap.size + 1) 27 [.bool false,.int .u64 0,.int .u64 0,.int .i64 0]:=by exact bkk
        have n0l:=n0.lt
        have n1l:=n1.lt
        have nw : Below w.heap.size w w6:=by exact bel
        have n0_0:=n0.cell 0 rfl
        have n0_1:=n0.cell 1 rfl
        have n0_2:=n0.cell 2 rfl
        have n0_3:=n0.cell 3 rfl
        have n0_4:=n0.frozen 0
        have n0_5:=n0.frozen 1
        have n0_6:=n0.frozen 2
        have n0_7:=n0.frozen 3
        clear hb6c hb6f
       all_goals
        go_wp2_with fail
        refine (HPL.out _).mono ?_
        rintro _ w7 ⟨rfl,hb7⟩;have hb7s:=hb7.size;(try simp only [wsA,wsS,wsD,wsN] at hb7s);obtain ⟨hb7c,hb7f⟩:=bcell hb7;(try have : w.heap.size < w7.heap.size:=by omega);(try have : w.heap.size + 1 < w7.heap.size:=by omega);(try have : w.heap.size + 1 + 1 < w7.heap.size:=by omega);(try have : w.heap.size + 1 + 1 + 1 < w7.heap.size:=by omega)
        have q1 : Bk w7 (w.heap.size + 1) 27 [.bool false,.int .u64 0,.int .u64 0,.int .i64 0]:=by exact bkk
        have q1l:=q1.lt
        clear hb7c hb7f
        go_wp2_with fail
        refine wp_named (fun W => Bk W w7.heap.size 80 [.int .u64 (wd (X + st) 0),.int .u64 (wd (X + st) 1),.int .u64 (wd (X + st) 2),.int .u64 (wd (X + st) 3)] ∧ Bk W (w.heap.size + 1) 27 [.bool false,.int .u64 0,.int .u64 0,.int .i64 0] ∧ Below w.heap.size w W) ⟨?h1, ?h2, ?h3⟩ ?_
        case h1 => ((repeat (first|(with_reducible assumption)|((with_reducible refine bkW ?_);(first|rfl|(simp only [wsA,wsS,wsD,wsN];done)))|(with_reducible first|refine bkA ?_ _|refine bkD ?_|refine bkN ?_ _)|((with_reducible refine bkF ?_ ?_ _);focus (simp only [];omega))|((with_reducible refine bkB (by assumption) ?_ ?_);focus (go_size;done))));done)
        case h2 => ((repeat (first|(with_reducible assumption)|((with_reducible refine bkW ?_);(first|rfl|(simp only [wsA,wsS,wsD,wsN];done)))|(with_reducible first|refine bkA ?_ _|refine bkD ?_|refine bkN ?_ _)|((with_reducible refine bkF ?_ ?_ _);focus (simp only [];omega))|((with_reducible refine bkB (by assumption) ?_ ?_);focus (go_size;done))));done)
        case h3 => ((repeat' first|(with_reducible first|exact blR _ _|assumption|refine blD ?_|refine blN ?_ _)|((with_reducible first|refine blA ?_ ?_ _|refine blS ?_ ?_ _|refine blT (by assumption) ?_ ?_);focus (go_size;done)));done)
        rintro V1 ⟨y0,y1,yw⟩
        have y0l:=y0.lt
        have y1l:=y1.lt
        clear n0_0 n0_1 n0_2 n0_3 n0_4 n0_5 n0_6 n0_7
        have y0_0:=y0.cell 0 rfl
        have y0_1:=y0.cell 1 rfl
        have y0_2:=y0.cell 2 rfl
        have y0_3:=y0.cell 3 rfl
        have y0_4:=y0.frozen 0
        have y0_5:=y0.frozen 1
        have y0_6:=y0.frozen 2
        have y0_7:=y0.frozen 3
        first | (go_region_held3 (fun w' => (w'.cell? ⟨w7.heap.size,0,none⟩ = some (.int .u64 (wd (X + st) 0)) ∧ w'.cell? ⟨w7.heap.size,1,none⟩ = some (.int .u64 (wd (X + st) 1)) ∧ w'.cell? ⟨w7.heap.size,2,none⟩ = some (.int .u64 (wd (X + st) 2)) ∧ w'.cell? ⟨w7.heap.size,3,none⟩ = some (.int .u64 (wd (X + st) 3)))) (first | (first | (go_keep;done) | (simp [go_sem];done) | ((try dsimp only);(repeat' apply And.intro) <;> (first | (with_reducible assumption) | ((rw [World.cell?_alloc_lt _ _ _ (by show _ < _;omega)]);go_split_ands;(first | with_reducible assumption | (refine (World.cell?_alloc_lt _ _ _ (by show _ < _;omega)).symm.trans ?_;with_reducible assumption))) | ((rw [World.cell?_setCell_other _ _ _ _ (by intro e;injection e;omega)]);with_reducible assumption) | (go_keep;done) | (simp [go_sem];done) | (simp (disch:=go_size) [*,World.cell?_alloc_some,World.cell?_setCell_far];done)))) | ((refine ⟨Bk.cell (t:=80) (cs:=[.int .u64 (wd (X + st) 0),.int .u64 (wd (X + st) 1),.int .u64 (wd (X + st) 2),.int .u64 (wd (X + st) 3)]) ?_ 0 rfl,Bk.cell (t:=80) (cs:=[.int .u64 (wd (X + st) 0),.int .u64 (wd (X + st) 1),.int .u64 (wd (X + st) 2),.int .u64 (wd (X + st) 3)]) ?_ 1 rfl,Bk.cell (t:=80) (cs:=[.int .u64 (wd (X + st) 0),.int .u64 (wd (X + st) 1),.int .u64 (wd (X + st) 2),.int .u64 (wd (X + st) 3)]) ?_ 2 rfl,Bk.cell (t:=80) (cs:=[.int .u64 (wd (X + st) 0),.int .u64 (wd (X + st) 1),.int .u64 (wd (X + st) 2),.int .u64 (wd (X + st) 3)]) ?_ 3 rfl⟩) <;> ((repeat (first|(with_reducible assumption)|((with_reducible refine bkW ?_);(first|rfl|(simp only [wsA,wsS,wsD,wsN];done)))|(with_reducible first|refine bkA ?_ _|refine bkD ?_|refine bkN ?_ _)|((with_reducible refine bkF ?_ ?_ _);focus (simp only [];omega))|((with_reducible refine bkB (by assumption) ?_ ?_);focus (go_size;done))));done))) (first | (go_at_call 150;(with_reducible refine (HB34.out _).mono ?_);rintro _ w12 ⟨rfl,hb12⟩;have hb12s:=hb12.size;(try simp only [wsA,wsS,wsD,wsN] at hb12s);obtain ⟨hb12c,hb12f⟩:=bcell hb12;(try have : w.heap.size < w12.heap.size:=by omega);(try have : w.heap.size + 1 < w12.heap.size:=by omega);(try have : w.heap.size + 1 + 1 < w12.heap.size:=by omega);(try have : w.heap.size + 1 + 1 + 1 < w12.heap.size:=by omega);(try have : w7.heap.size < w12.heap.size:=by omega)) | (go_at_call 71;(with_reducible refine (HT0.out _).mono ?_);rintro _ w13 ⟨rfl,hb13⟩;have hb13s:=hb13.size;(try simp only [wsA,wsS,wsD,wsN] at hb13s);obtain ⟨hb13c,hb13f⟩:=bcell hb13;(try have : w.heap.size < w13.heap.size:=by omega);(try have : w.heap.size + 1 < w13.heap.size:=by omega);(try have : w.heap.size + 1 + 1 < w13.heap.size:=by omega);(try have : w.heap.size + 1 + 1 + 1 < w13.heap.size:=by omega);(try have : w7.heap.size < w13.heap.size:=by omega)) | (go_at_call 49;(with_reducible refine (HYO.out _).mono ?_);rintro _ w14 ⟨rfl,hb14⟩;have hb14s:=hb14.size;(try simp only [wsA,wsS,wsD,wsN] at hb14s);obtain ⟨hb14c,hb14f⟩:=bcell hb14;(try have : w.heap.size < w14.heap.size:=by omega);(try have : w.heap.size + 1 < w14.heap.size:=by omega);(try have : w.heap.size + 1 + 1 < w14.heap.size:=by omega);(try have : w.heap.size + 1 + 1 + 1 < w14.heap.size:=by omega);(try have : w7.heap.size < w14.heap.size:=by omega)))) | fail
        all_goals
         refine wp_named (fun W => Bk W w7.heap.size 80 [.int .u64 (wd (X + st) 0),.int .u64 (wd (X + st) 1),.int .u64 (wd (X + st) 2),.int .u64 (wd (X + st) 3)] ∧ Bk W (w.heap.size + 1) 27 [.bool false,.int .u64 0,.int .u64 0,.int .i64 0] ∧ Below w.heap.size w W) ⟨?h1, ?h2, ?h3⟩ ?_
         case h1 => ((repeat (first|(with_reducible assumption)|((with_reducible refine bkW ?_);(first|rfl|(simp only [wsA,wsS,wsD,wsN];done)))|(with_reducible first|refine bkA ?_ _|refine bkD ?_|refine bkN ?_ _)|((with_reducible refine bkF ?_ ?_ _);focus (simp only [];omega))|((with_reducible refine bkB (by assumption) ?_ ?_);focus (go_size;done))));done)
         case h2 => ((repeat (first|(with_reducible assumption)|((with_reducible refine bkW ?_);(first|rfl|(simp only [wsA,wsS,wsD,wsN];done)))|(with_reducible first|refine bkA ?_ _|refine bkD ?_|refine bkN ?_ _)|((with_reducible refine bkF ?_ ?_ _);focus (simp only [];omega))|((with_reducible refine bkB (by assumption) ?_ ?_);focus (go_size;done))));done)
         case h3 => ((repeat' first|(with_reducible first|exact blR _ _|assumption|refine blD ?_|refine blN ?_ _)|((with_reducible first|refine blA ?_ ?_ _|refine blS ?_ ?_ _|refine blT (by assumption) ?_ ?_);focus (go_size;done)));done)
         rintro V2 ⟨z0,z1,zw⟩
         have z0l:=z0.lt
         have z1l:=z1.lt
         clear y0_0 y0_1 y0_2 y0_3 y0_4 y0_5 y0_6 y0_7
         have z0_0:=z0.cell 0 rfl
         have z0_1:=z0.cell 1 rfl
         have z0_2:=z0.cell 2 rfl
         have z0_3:=z0.cell 3 rfl
         have z0_4:=z0.frozen 0
         have z0_5:=z0.frozen 1
         have z0_6:=z0.frozen 2
         have z0_7:=z0.frozen 3
         clear hb12 hb13 hb14 hb12c hb13c hb14c hb12f hb13f hb14f
         go_wp2_with fail
         refine (HF.out _).mono ?_
         rintro _ w8 ⟨rfl,hb8⟩;have hb8s:=hb8.size;(try simp only [wsA,wsS,wsD,wsN] at hb8s);obtain ⟨hb8c,hb8f⟩:=bcell hb8;(try have : w.heap.size < w8.heap.size:=by omega);(try have : w.heap.size + 1 < w8.heap.size:=by omega);(try have : w.heap.size + 1 + 1 < w8.heap.size:=by omega);(try have : w.heap.size + 1 + 1 + 1 < w8.heap.size:=by omega)
         have n8 : Bk w8 (w.heap.size + 1) 27 [.bool false,.int .u64 0,.int .u64 0,.int .i64 0]:=by exact bkk
         have n8_0:=n8.cell 0 rfl
         have n8_1:=n8.cell 1 rfl
         have n8_2:=n8.cell 2 rfl
         have n8_3:=n8.cell 3 rfl
         have n8_4:=n8.frozen 0
         have n8_5:=n8.frozen 1
         have n8_6:=n8.frozen 2
         have n8_7:=n8.frozen 3
         clear hb8c hb8f
         go_wp2_with fail
         refine bodyPost_ret (by simp [results,Tryz.results101,go_sem, *];try rfl) rfl ?_
         exact ⟨by rw [EC.out,ES.out,EE.out,HE.out,(nb_yes _).1,(nb_yes _).2.1,(nb_yes _).2.2,show ∀ x,sg false x = false from fun x => rfl],by exact bel⟩
      ·have hyc : 0 ≤ cmpN (X + st) (B34 * 10 ^ 18):=by unfold cmpN;split <;> (try split) <;> omega
       have he:=HRR.out
       rw [upK_up' (by rintro ⟨_,h⟩;refine hy ?_;rw [HST.out];exact h rfl)] at he
       have HE:=Far.mk he
       clear hlt he hrr hroom HRR hBd hX2 hstl hX3 hsum b0 b1 hy
       generalize cmpN (X + st) (B34 * 10 ^ 18) = c2 at *
       generalize B34 * 10 ^ 18 = B18 at *
       have b0:=HB0.out
       have b1:=HB1.out
       rw [lcells_eq] at b0
       have b0_0:=b0.cell 0 rfl
       have b0_1:=b0.cell 1 rfl
       have b0_2:=b0.cell 2 rfl
       have b0_3:=b0.cell 3 rfl
       have b0_4:=b0.frozen 0
       have b0_5:=b0.frozen 1
       have b0_6:=b0.frozen 2
       have b0_7:=b0.frozen 3
       go_wp2_with fail
       go_region_held3 (fun w' => (w'.cell? ⟨w1.heap.size,0,none⟩ = some (.int .u64 (wd X 0)) ∧ w'.cell? ⟨w1.heap.size,1,none⟩ = some (.int .u64 (wd X 1)) ∧ w'.cell? ⟨w1.heap.size,2,none⟩ = some (.int .u64 (wd X 2)) ∧ w'.cell? ⟨w1.heap.size,3,none⟩ = some (.int .u64 (wd X 3)))) (first | (first | (go_keep;done) | (simp [go_sem];done) | ((try dsimp only);(repeat' apply And.intro) <;> (first | (with_reducible assumption) | ((rw [World.cell?_alloc_lt _ _ _ (by show _ < _;omega)]);go_split_ands;(first | with_reducible assumption | (refine (World.cell?_alloc_lt _ _ _ (by show _ < _;omega)).symm.trans ?_;with_reducible assumption))) | ((rw [World.cell?_setCell_other _ _ _ _ (by intro e;injection e;omega)]);with_reducible assumption) | (go_keep;done) | (simp [go_sem];done) | (simp (disch:=go_size) [*,World.cell?_alloc_some,World.cell?_setCell_far];done)))) | ((refine ⟨Bk.cell (t:=80) (cs:=[.int .u64 (wd X 0),.int .u64 (wd X 1),.int .u64 (wd X 2),.int .u64 (wd X 3)]) ?_ 0 rfl,Bk.cell (t:=80) (cs:=[.int .u64 (wd X 0),.int .u64 (wd X 1),.int .u64 (wd X 2),.int .u64 (wd X 3)]) ?_ 1 rfl,Bk.cell (t:=80) (cs:=[.int .u64 (wd X 0),.int .u64 (wd X 1),.int .u64 (wd X 2),.int .u64 (wd X 3)]) ?_ 2 rfl,Bk.cell (t:=80) (cs:=[.int .u64 (wd X 0),.int .u64 (wd X 1),.int .u64 (wd X 2),.int .u64 (wd X 3)]) ?_ 3 rfl⟩) <;> ((repeat (first|(with_reducible assumption)|((with_reducible refine bkW ?_);(first|rfl|(simp only [wsA,wsS,wsD,wsN];done)))|(with_reducible first|refine bkA ?_ _|refine bkD ?_|refine bkN ?_ _)|((with_reducible refine bkF ?_ ?_ _);focus (simp only [];omega))|((with_reducible refine bkB (by assumption) ?_ ?_);focus (go_size;done))));done))) (first | (go_at_call 150;(with_reducible refine (HB34.out _).mono ?_);rintro _ w2 ⟨rfl,hb2⟩;have hb2s:=hb2.size;(try simp only [wsA,wsS,wsD,wsN] at hb2s);obtain ⟨hb2c,hb2f⟩:=bcell hb2;(try have : w.heap.size < w2.heap.size:=by omega);(try have : w.heap.size + 1 < w2.heap.size:=by omega);(try have : w.heap.size + 1 + 1 < w2.heap.size:=by omega);(try have : w.heap.size + 1 + 1 + 1 < w2.heap.size:=by omega);(try have : w1.heap.size < w2.heap.size:=by omega);(try have : w1.heap.size + 1 < w2.heap.size:=by omega);(try have : w1.heap.size + 1 + 1 < w2.heap.size:=by omega);(try have : w1.heap.size + 1 + 1 + 1 < w2.heap.size:=by omega)) | (go_at_call 71;(with_reducible refine (HT.out _).mono ?_);rintro _ w3 ⟨rfl,hb3⟩;have hb3s:=hb3.size;(try simp only [wsA,wsS,wsD,wsN] at hb3s);obtain ⟨hb3c,hb3f⟩:=bcell hb3;(try have : w.heap.size < w3.heap.size:=by omega);(try have : w.heap.size + 1 < w3.heap.size:=by omega);(try have : w.heap.size + 1 + 1 < w3.heap.size:=by omega);(try have : w.heap.size + 1 + 1 + 1 < w3.heap.size:=by omega);(try have : w1.heap.size < w3.heap.size:=by omega);(try have : w1.heap.size + 1 < w3.heap.size:=by omega);(try have : w1.heap.size + 1 + 1 < w3.heap.size:=by omega);(try have : w1.heap.size + 1 + 1 + 1 < w3.heap.size:=by omega);(try have : w2.heap.size < w3.heap.size:=by omega);(try have : w2.heap.size + 1 < w3.heap.size:=by omega);(try have : w2.heap.size + 1 + 1 < w3.heap.size:=by omega);(try have : w2.heap.size + 1 + 1 + 1 < w3.heap.size:=by omega)) | (go_at_call 71;(with_reducible refine (HTz.out _).mono ?_);rintro _ w3 ⟨rfl,hb3⟩;have hb3s:=hb3.size;(try simp only [wsA,wsS,wsD,wsN] at hb3s);obtain ⟨hb3c,hb3f⟩:=bcell hb3;(try have : w.heap.size < w3.heap.size:=by omega);(try have : w.heap.size + 1 < w3.heap.size:=by omega);(try have : w.heap.size + 1 + 1 < w3.heap.size:=by omega);(try have : w.heap.size + 1 + 1 + 1 < w3.heap.size:=by omega);(try have : w1.heap.size < w3.heap.size:=by omega);(try have : w1.heap.size + 1 < w3.heap.size:=by omega);(try have : w1.heap.size + 1 + 1 < w3.heap.size:=by omega);(try have : w1.heap.size + 1 + 1 + 1 < w3.heap.size:=by omega);(try have : w2.heap.size < w3.heap.size:=by omega);(try have : w2.heap.size + 1 < w3.heap.size:=by omega);(try have : w2.heap.size + 1 + 1 < w3.heap.size:=by omega);(try have : w2.heap.size + 1 + 1 + 1 < w3.heap.size:=by omega)) | (go_at_call 49;(with_reducible refine (HO.out _).mono ?_);rintro _ w4 ⟨rfl,hb4⟩;have hb4s:=hb4.size;(try simp only [wsA,wsS,wsD,wsN] at hb4s);obtain ⟨hb4c,hb4f⟩:=bcell hb4;(try have : w.heap.size < w4.heap.size:=by omega);(try have : w.heap.size + 1 < w4.heap.size:=by omega);(try have : w.heap.size + 1 + 1 < w4.heap.size:=by omega);(try have : w.heap.size + 1 + 1 + 1 < w4.heap.size:=by omega);(try have : w1.heap.size < w4.heap.size:=by omega);(try have : w1.heap.size + 1 < w4.heap.size:=by omega);(try have : w1.heap.size + 1 + 1 < w4.heap.size:=by omega);(try have : w1.heap.size + 1 + 1 + 1 < w4.heap.size:=by omega);(try have : w3.heap.size < w4.heap.size:=by omega);(try have : w3.heap.size + 1 < w4.heap.size:=by omega);(try have : w3.heap.size + 1 + 1 < w4.heap.size:=by omega);(try have : w3.heap.size + 1 + 1 + 1 < w4.heap.size:=by omega)))
       all_goals
        refine wp_named (fun W => Bk W w1.heap.size 80 [.int .u64 (wd X 0),.int .u64 (wd X 1),.int .u64 (wd X 2),.int .u64 (wd X 3)] ∧ Bk W (w.heap.size + 1) 27 [.bool false,.int .u64 0,.int .u64 0,.int .i64 0] ∧ Below w.heap.size w W) ⟨?h1, ?h2, ?h3⟩ ?_
        case h1 => ((repeat (first|(with_reducible assumption)|((with_reducible refine bkW ?_);(first|rfl|(simp only [wsA,wsS,wsD,wsN];done)))|(with_reducible first|refine bkA ?_ _|refine bkD ?_|refine bkN ?_ _)|((with_reducible refine bkF ?_ ?_ _);focus (simp only [];omega))|((with_reducible refine bkB (by assumption) ?_ ?_);focus (go_size;done))));done)
        case h2 => ((repeat (first|(with_reducible assumption)|((with_reducible refine bkW ?_);(first|rfl|(simp only [wsA,wsS,wsD,wsN];done)))|(with_reducible first|refine bkA ?_ _|refine bkD ?_|refine bkN ?_ _)|((with_reducible refine bkF ?_ ?_ _);focus (simp only [];omega))|((with_reducible refine bkB (by assumption) ?_ ?_);focus (go_size;done))));done)
        case h3 => ((repeat' first|(with_reducible first|exact blR _ _|assumption|refine blD ?_|refine blN ?_ _)|((with_reducible first|refine blA ?_ ?_ _|refine blS ?_ ?_ _|refine blT (by assumption) ?_ ?_);focus (go_size;done)));done)
        rintro W1 ⟨k0,k1,kw⟩
        have k0l:=k0.lt
        have k1l:=k1.lt
        clear b0_0 b0_1 b0_2 b0_3 b0_4 b0_5 b0_6 b0_7
        clear hb2 hb3 hb4 hb2c hb3c hb4c hb2f hb3f hb4f
        go_wp2_with fail
        first | (with_reducible refine (HP.out _).mono ?_) | (with_reducible refine (HPz.out _).mono ?_)
        rintro _ w5 ⟨rfl,hb5⟩;have hb5s:=hb5.size;(try simp only [wsA,wsS,wsD,wsN] at hb5s);obtain ⟨hb5c,hb5f⟩:=bcell hb5;(try have : w.heap.size < w5.heap.size:=by omega);(try have : w.heap.size + 1 < w5.heap.size:=by omega);(try have : w.heap.size + 1 + 1 < w5.heap.size:=by omega);(try have : w.heap.size + 1 + 1 + 1 < w5.heap.size:=by omega)
        have m0 : Bk w5 w1.heap.size 80 [.int .u64 (wd X 0),.int .u64 (wd X 1),.int .u64 (wd X 2),.int .u64 (wd X 3)]:=by exact bkk
        have m1 : Bk w5 (w.heap.size + 1) 27 [.bool false,.int .u64 0,.int .u64 0,.int .i64 0]:=by exact bkk
        have m0l:=m0.lt
        have m1l:=m1.lt
        clear hb5c hb5f
        go_wp2_with fail
        refine (HL.out _).mono ?_
        rintro _ w6 ⟨rfl,hb6⟩;have hb6s:=hb6.size;(try simp only [wsA,wsS,wsD,wsN] at hb6s);obtain ⟨hb6c,hb6f⟩:=bcell hb6;(try have : w.heap.size < w6.heap.size:=by omega);(try have : w.heap.size + 1 < w6.heap.size:=by omega);(try have : w.heap.size + 1 + 1 < w6.heap.size:=by omega);(try have : w.heap.size + 1 + 1 + 1 < w6.heap.size:=by omega)
        have n0 : Bk w6 w1.heap.size 80 [.int .u64 (wd X 0),.int .u64 (wd X 1),.int .u64 (wd X 2),.int .u64 (wd X 3)]:=by exact bkk
        have n1 : Bk w6 (w.heap.size + 1) 27 [.bool false,.int .u64 0,.int .u64 0,.int .i64 0]:=by exact bkk
        have n0l:=n0.lt
        have n1l:=n1.lt
        have nw : Below w.heap.size w w6:=by exact bel
        have n0_0:=n0.cell 0 rfl
        have n0_1:=n0.cell 1 rfl
        have n0_2:=n0.cell 2 rfl
        have n0_3:=n0.cell 3 rfl
        have n0_4:=n0.frozen 0
        have n0_5:=n0.frozen 1
        have n0_6:=n0.frozen 2
        have n0_7:=n0.frozen 3
        clear hb6c hb6f
       all_goals
        go_wp2_with fail
        refine (HPL.out _).mono ?_
        rintro _ w7 ⟨rfl,hb7⟩;have hb7s:=hb7.size;(try simp only [wsA,wsS,wsD,wsN] at hb7s);obtain ⟨hb7c,hb7f⟩:=bcell hb7;(try have : w.heap.size < w7.heap.size:=by omega);(try have : w.heap.size + 1 < w7.heap.size:=by omega);(try have : w.heap.size + 1 + 1 < w7.heap.size:=by omega);(try have : w.heap.size + 1 + 1 + 1 < w7.heap.size:=by omega)
        have q1 : Bk w7 (w.heap.size + 1) 27 [.bool false,.int .u64 0,.int .u64 0,.int .i64 0]:=by exact bkk
        have q1l:=q1.lt
        clear hb7c hb7f
        go_wp2_with fail
        refine wp_named (fun W => Bk W w7.heap.size 80 [.int .u64 (wd (X + st) 0),.int .u64 (wd (X + st) 1),.int .u64 (wd (X + st) 2),.int .u64 (wd (X + st) 3)] ∧ Bk W (w.heap.size + 1) 27 [.bool false,.int .u64 0,.int .u64 0,.int .i64 0] ∧ Below w.heap.size w W) ⟨?h1, ?h2, ?h3⟩ ?_
        case h1 => ((repeat (first|(with_reducible assumption)|((with_reducible refine bkW ?_);(first|rfl|(simp only [wsA,wsS,wsD,wsN];done)))|(with_reducible first|refine bkA ?_ _|refine bkD ?_|refine bkN ?_ _)|((with_reducible refine bkF ?_ ?_ _);focus (simp only [];omega))|((with_reducible refine bkB (by assumption) ?_ ?_);focus (go_size;done))));done)
        case h2 => ((repeat (first|(with_reducible assumption)|((with_reducible refine bkW ?_);(first|rfl|(simp only [wsA,wsS,wsD,wsN];done)))|(with_reducible first|refine bkA ?_ _|refine bkD ?_|refine bkN ?_ _)|((with_reducible refine bkF ?_ ?_ _);focus (simp only [];omega))|((with_reducible refine bkB (by assumption) ?_ ?_);focus (go_size;done))));done)
        case h3 => ((repeat' first|(with_reducible first|exact blR _ _|assumption|refine blD ?_|refine blN ?_ _)|((with_reducible first|refine blA ?_ ?_ _|refine blS ?_ ?_ _|refine blT (by assumption) ?_ ?_);focus (go_size;done)));done)
        rintro V1 ⟨y0,y1,yw⟩
        have y0l:=y0.lt
        have y1l:=y1.lt
        clear n0_0 n0_1 n0_2 n0_3 n0_4 n0_5 n0_6 n0_7
        have y0_0:=y0.cell 0 rfl
        have y0_1:=y0.cell 1 rfl
        have y0_2:=y0.cell 2 rfl
        have y0_3:=y0.cell 3 rfl
        have y0_4:=y0.frozen 0
        have y0_5:=y0.frozen 1
        have y0_6:=y0.frozen 2
        have y0_7:=y0.frozen 3
        first | (go_region_held3 (fun w' => (w'.cell? ⟨w7.heap.size,0,none⟩ = some (.int .u64 (wd (X + st) 0)) ∧ w'.cell? ⟨w7.heap.size,1,none⟩ = some (.int .u64 (wd (X + st) 1)) ∧ w'.cell? ⟨w7.heap.size,2,none⟩ = some (.int .u64 (wd (X + st) 2)) ∧ w'.cell? ⟨w7.heap.size,3,none⟩ = some (.int .u64 (wd (X + st) 3)))) (first | (first | (go_keep;done) | (simp [go_sem];done) | ((try dsimp only);(repeat' apply And.intro) <;> (first | (with_reducible assumption) | ((rw [World.cell?_alloc_lt _ _ _ (by show _ < _;omega)]);go_split_ands;(first | with_reducible assumption | (refine (World.cell?_alloc_lt _ _ _ (by show _ < _;omega)).symm.trans ?_;with_reducible assumption))) | ((rw [World.cell?_setCell_other _ _ _ _ (by intro e;injection e;omega)]);with_reducible assumption) | (go_keep;done) | (simp [go_sem];done) | (simp (disch:=go_size) [*,World.cell?_alloc_some,World.cell?_setCell_far];done)))) | ((refine ⟨Bk.cell (t:=80) (cs:=[.int .u64 (wd (X + st) 0),.int .u64 (wd (X + st) 1),.int .u64 (wd (X + st) 2),.int .u64 (wd (X + st) 3)]) ?_ 0 rfl,Bk.cell (t:=80) (cs:=[.int .u64 (wd (X + st) 0),.int .u64 (wd (X + st) 1),.int .u64 (wd (X + st) 2),.int .u64 (wd (X + st) 3)]) ?_ 1 rfl,Bk.cell (t:=80) (cs:=[.int .u64 (wd (X + st) 0),.int .u64 (wd (X + st) 1),.int .u64 (wd (X + st) 2),.int .u64 (wd (X + st) 3)]) ?_ 2 rfl,Bk.cell (t:=80) (cs:=[.int .u64 (wd (X + st) 0),.int .u64 (wd (X + st) 1),.int .u64 (wd (X + st) 2),.int .u64 (wd (X + st) 3)]) ?_ 3 rfl⟩) <;> ((repeat (first|(with_reducible assumption)|((with_reducible refine bkW ?_);(first|rfl|(simp only [wsA,wsS,wsD,wsN];done)))|(with_reducible first|refine bkA ?_ _|refine bkD ?_|refine bkN ?_ _)|((with_reducible refine bkF ?_ ?_ _);focus (simp only [];omega))|((with_reducible refine bkB (by assumption) ?_ ?_);focus (go_size;done))));done))) (first | (go_at_call 150;(with_reducible refine (HB34.out _).mono ?_);rintro _ w12 ⟨rfl,hb12⟩;have hb12s:=hb12.size;(try simp only [wsA,wsS,wsD,wsN] at hb12s);obtain ⟨hb12c,hb12f⟩:=bcell hb12;(try have : w.heap.size < w12.heap.size:=by omega);(try have : w.heap.size + 1 < w12.heap.size:=by omega);(try have : w.heap.size + 1 + 1 < w12.heap.size:=by omega);(try have : w.heap.size + 1 + 1 + 1 < w12.heap.size:=by omega);(try have : w7.heap.size < w12.heap.size:=by omega)) | (go_at_call 71;(with_reducible refine (HT0.out _).mono ?_);rintro _ w13 ⟨rfl,hb13⟩;have hb13s:=hb13.size;(try simp only [wsA,wsS,wsD,wsN] at hb13s);obtain ⟨hb13c,hb13f⟩:=bcell hb13;(try have : w.heap.size < w13.heap.size:=by omega);(try have : w.heap.size + 1 < w13.heap.size:=by omega);(try have : w.heap.size + 1 + 1 < w13.heap.size:=by omega);(try have : w.heap.size + 1 + 1 + 1 < w13.heap.size:=by omega);(try have : w7.heap.size < w13.heap.size:=by omega)) | (go_at_call 49;(with_reducible refine (HYO.out _).mono ?_);rintro _ w14 ⟨rfl,hb14⟩;have hb14s:=hb14.size;(try simp only [wsA,wsS,wsD,wsN] at hb14s);obtain ⟨hb14c,hb14f⟩:=bcell hb14;(try have : w.heap.size < w14.heap.size:=by omega);(try have : w.heap.size + 1 < w14.heap.size:=by omega);(try have : w.heap.size + 1 + 1 < w14.heap.size:=by omega);(try have : w.heap.size + 1 + 1 + 1 < w14.heap.size:=by omega);(try have : w7.heap.size < w14.heap.size:=by omega)))) | fail
        all_goals
         refine wp_named (fun W => Bk W w7.heap.size 80 [.int .u64 (wd (X + st) 0),.int .u64 (wd (X + st) 1),.int .u64 (wd (X + st) 2),.int .u64 (wd (X + st) 3)] ∧ Bk W (w.heap.size + 1) 27 [.bool false,.int .u64 0,.int .u64 0,.int .i64 0] ∧ Below w.heap.size w W) ⟨?h1, ?h2, ?h3⟩ ?_
         case h1 => ((repeat (first|(with_reducible assumption)|((with_reducible refine bkW ?_);(first|rfl|(simp only [wsA,wsS,wsD,wsN];done)))|(with_reducible first|refine bkA ?_ _|refine bkD ?_|refine bkN ?_ _)|((with_reducible refine bkF ?_ ?_ _);focus (simp only [];omega))|((with_reducible refine bkB (by assumption) ?_ ?_);focus (go_size;done))));done)
         case h2 => ((repeat (first|(with_reducible assumption)|((with_reducible refine bkW ?_);(first|rfl|(simp only [wsA,wsS,wsD,wsN];done)))|(with_reducible first|refine bkA ?_ _|refine bkD ?_|refine bkN ?_ _)|((with_reducible refine bkF ?_ ?_ _);focus (simp only [];omega))|((with_reducible refine bkB (by assumption) ?_ ?_);focus (go_size;done))));done)
         case h3 => ((repeat' first|(with_reducible first|exact blR _ _|assumption|refine blD ?_|refine blN ?_ _)|((with_reducible first|refine blA ?_ ?_ _|refine blS ?_ ?_ _|refine blT (by assumption) ?_ ?_);focus (go_size;done)));done)
         rintro V2 ⟨z0,z1,zw⟩
         have z0l:=z0.lt
         have z1l:=z1.lt
         clear y0_0 y0_1 y0_2 y0_3 y0_4 y0_5 y0_6 y0_7
         have z0_0:=z0.cell 0 rfl
         have z0_1:=z0.cell 1 rfl
         have z0_2:=z0.cell 2 rfl
         have z0_3:=z0.cell 3 rfl
         have z0_4:=z0.frozen 0
         have z0_5:=z0.frozen 1
         have z0_6:=z0.frozen 2
         have z0_7:=z0.frozen 3
         clear hb12 hb13 hb14 hb12c hb13c hb14c hb12f hb13f hb14f
         have z1_0:=z1.cell 0 rfl
         have z1_1:=z1.cell 1 rfl
         have z1_2:=z1.cell 2 rfl
         have z1_3:=z1.cell 3 rfl
         have z1_4:=z1.frozen 0
         have z1_5:=z1.frozen 1
         have z1_6:=z1.frozen 2
         have z1_7:=z1.frozen 3
         go_wp2_with fail
         refine bodyPost_ret (by simp [results,Tryz.results101,go_sem, *];try rfl) rfl ?_
         have e:=HE.out
         exact ⟨by rw [EC.out,ES.out,EE.out,e,show upK X false 0 = (0,false) from rfl,(nb_no 0).1,(nb_no 0).2.1,(nb_no 0).2.2,wd_zero,wd_zero];rfl,by exact bel⟩
     ·have hjp : ((j : Int) == 0) = false:=by rw [beq_eq_false_iff_ne];omega
      have he:=HRR.out
      rw [upK_up (by rw [← HBD.out];exact HLT.out) (fun h => absurd h hj),← HST.out] at he
      have HE:=Far.mk he
      clear hlt hj he hrr hroom HRR hBd hX2 hstl hX3 hsum b0 b1
      have b0:=HB0.out
      have b1:=HB1.out
      rw [lcells_eq] at b0
      have b0_0:=b0.cell 0 rfl
      have b0_1:=b0.cell 1 rfl
      have b0_2:=b0.cell 2 rfl
      have b0_3:=b0.cell 3 rfl
      have b0_4:=b0.frozen 0
      have b0_5:=b0.frozen 1
      have b0_6:=b0.frozen 2
      have b0_7:=b0.frozen 3
      go_wp2_with fail
      go_region_held3 (fun w' => (w'.cell? ⟨w1.heap.size,0,none⟩ = some (.int .u64 (wd X 0)) ∧ w'.cell? ⟨w1.heap.size,1,none⟩ = some (.int .u64 (wd X 1)) ∧ w'.cell? ⟨w1.heap.size,2,none⟩ = some (.int .u64 (wd X 2)) ∧ w'.cell? ⟨w1.heap.size,3,none⟩ = some (.int .u64 (wd X 3)))) (first | (first | (go_keep;done) | (simp [go_sem];done) | ((try dsimp only);(repeat' apply And.intro) <;> (first | (with_reducible assumption) | ((rw [World.cell?_alloc_lt _ _ _ (by show _ < _;omega)]);go_split_ands;(first | with_reducible assumption | (refine (World.cell?_alloc_lt _ _ _ (by show _ < _;omega)).symm.trans ?_;with_reducible assumption))) | ((rw [World.cell?_setCell_other _ _ _ _ (by intro e;injection e;omega)]);with_reducible assumption) | (go_keep;done) | (simp [go_sem];done) | (simp (disch:=go_size) [*,World.cell?_alloc_some,World.cell?_setCell_far];done)))) | ((refine ⟨Bk.cell (t:=80) (cs:=[.int .u64 (wd X 0),.int .u64 (wd X 1),.int .u64 (wd X 2),.int .u64 (wd X 3)]) ?_ 0 rfl,Bk.cell (t:=80) (cs:=[.int .u64 (wd X 0),.int .u64 (wd X 1),.int .u64 (wd X 2),.int .u64 (wd X 3)]) ?_ 1 rfl,Bk.cell (t:=80) (cs:=[.int .u64 (wd X 0),.int .u64 (wd X 1),.int .u64 (wd X 2),.int .u64 (wd X 3)]) ?_ 2 rfl,Bk.cell (t:=80) (cs:=[.int .u64 (wd X 0),.int .u64 (wd X 1),.int .u64 (wd X 2),.int .u64 (wd X 3)]) ?_ 3 rfl⟩) <;> ((repeat (first|(with_reducible assumption)|((with_reducible refine bkW ?_);(first|rfl|(simp only [wsA,wsS,wsD,wsN];done)))|(with_reducible first|refine bkA ?_ _|refine bkD ?_|refine bkN ?_ _)|((with_reducible refine bkF ?_ ?_ _);focus (simp only [];omega))|((with_reducible refine bkB (by assumption) ?_ ?_);focus (go_size;done))));done))) (first | (go_at_call 150;(with_reducible refine (HB34.out _).mono ?_);rintro _ w2 ⟨rfl,hb2⟩;have hb2s:=hb2.size;(try simp only [wsA,wsS,wsD,wsN] at hb2s);obtain ⟨hb2c,hb2f⟩:=bcell hb2;(try have : w.heap.size < w2.heap.size:=by omega);(try have : w.heap.size + 1 < w2.heap.size:=by omega);(try have : w.heap.size + 1 + 1 < w2.heap.size:=by omega);(try have : w.heap.size + 1 + 1 + 1 < w2.heap.size:=by omega);(try have : w1.heap.size < w2.heap.size:=by omega);(try have : w1.heap.size + 1 < w2.heap.size:=by omega);(try have : w1.heap.size + 1 + 1 < w2.heap.size:=by omega);(try have : w1.heap.size + 1 + 1 + 1 < w2.heap.size:=by omega)) | (go_at_call 71;(with_reducible refine (HT.out _).mono ?_);rintro _ w3 ⟨rfl,hb3⟩;have hb3s:=hb3.size;(try simp only [wsA,wsS,wsD,wsN] at hb3s);obtain ⟨hb3c,hb3f⟩:=bcell hb3;(try have : w.heap.size < w3.heap.size:=by omega);(try have : w.heap.size + 1 < w3.heap.size:=by omega);(try have : w.heap.size + 1 + 1 < w3.heap.size:=by omega);(try have : w.heap.size + 1 + 1 + 1 < w3.heap.size:=by omega);(try have : w1.heap.size < w3.heap.size:=by omega);(try have : w1.heap.size + 1 < w3.heap.size:=by omega);(try have : w1.heap.size + 1 + 1 < w3.heap.size:=by omega);(try have : w1.heap.size + 1 + 1 + 1 < w3.heap.size:=by omega);(try have : w2.heap.size < w3.heap.size:=by omega);(try have : w2.heap.size + 1 < w3.heap.size:=by omega);(try have : w2.heap.size + 1 + 1 < w3.heap.size:=by omega);(try have : w2.heap.size + 1 + 1 + 1 < w3.heap.size:=by omega)) | (go_at_call 71;(with_reducible refine (HTz.out _).mono ?_);rintro _ w3 ⟨rfl,hb3⟩;have hb3s:=hb3.size;(try simp only [wsA,wsS,wsD,wsN] at hb3s);obtain ⟨hb3c,hb3f⟩:=bcell hb3;(try have : w.heap.size < w3.heap.size:=by omega);(try have : w.heap.size + 1 < w3.heap.size:=by omega);(try have : w.heap.size + 1 + 1 < w3.heap.size:=by omega);(try have : w.heap.size + 1 + 1 + 1 < w3.heap.size:=by omega);(try have : w1.heap.size < w3.heap.size:=by omega);(try have : w1.heap.size + 1 < w3.heap.size:=by omega);(try have : w1.heap.size + 1 + 1 < w3.heap.size:=by omega);(try have : w1.heap.size + 1 + 1 + 1 < w3.heap.size:=by omega);(try have : w2.heap.size < w3.heap.size:=by omega);(try have : w2.heap.size + 1 < w3.heap.size:=by omega);(try have : w2.heap.size + 1 + 1 < w3.heap.size:=by omega);(try have : w2.heap.size + 1 + 1 + 1 < w3.heap.size:=by omega)) | (go_at_call 49;(with_reducible refine (HO.out _).mono ?_);rintro _ w4 ⟨rfl,hb4⟩;have hb4s:=hb4.size;(try simp only [wsA,wsS,wsD,wsN] at hb4s);obtain ⟨hb4c,hb4f⟩:=bcell hb4;(try have : w.heap.size < w4.heap.size:=by omega);(try have : w.heap.size + 1 < w4.heap.size:=by omega);(try have : w.heap.size + 1 + 1 < w4.heap.size:=by omega);(try have : w.heap.size + 1 + 1 + 1 < w4.heap.size:=by omega);(try have : w1.heap.size < w4.heap.size:=by omega);(try have : w1.heap.size + 1 < w4.heap.size:=by omega);(try have : w1.heap.size + 1 + 1 < w4.heap.size:=by omega);(try have : w1.heap.size + 1 + 1 + 1 < w4.heap.size:=by omega);(try have : w3.heap.size < w4.heap.size:=by omega);(try have : w3.heap.size + 1 < w4.heap.size:=by omega);(try have : w3.heap.size + 1 + 1 < w4.heap.size:=by omega);(try have : w3.heap.size + 1 + 1 + 1 < w4.heap.size:=by omega)))
      all_goals
       refine wp_named (fun W => Bk W w1.heap.size 80 [.int .u64 (wd X 0),.int .u64 (wd X 1),.int .u64 (wd X 2),.int .u64 (wd X 3)] ∧ Bk W (w.heap.size + 1) 27 [.bool false,.int .u64 0,.int .u64 0,.int .i64 0] ∧ Below w.heap.size w W) ⟨?h1, ?h2, ?h3⟩ ?_
       case h1 => ((repeat (first|(with_reducible assumption)|((with_reducible refine bkW ?_);(first|rfl|(simp only [wsA,wsS,wsD,wsN];done)))|(with_reducible first|refine bkA ?_ _|refine bkD ?_|refine bkN ?_ _)|((with_reducible refine bkF ?_ ?_ _);focus (simp only [];omega))|((with_reducible refine bkB (by assumption) ?_ ?_);focus (go_size;done))));done)
       case h2 => ((repeat (first|(with_reducible assumption)|((with_reducible refine bkW ?_);(first|rfl|(simp only [wsA,wsS,wsD,wsN];done)))|(with_reducible first|refine bkA ?_ _|refine bkD ?_|refine bkN ?_ _)|((with_reducible refine bkF ?_ ?_ _);focus (simp only [];omega))|((with_reducible refine bkB (by assumption) ?_ ?_);focus (go_size;done))));done)
       case h3 => ((repeat' first|(with_reducible first|exact blR _ _|assumption|refine blD ?_|refine blN ?_ _)|((with_reducible first|refine blA ?_ ?_ _|refine blS ?_ ?_ _|refine blT (by assumption) ?_ ?_);focus (go_size;done)));done)
       rintro W1 ⟨k0,k1,kw⟩
       have k0l:=k0.lt
       have k1l:=k1.lt
       clear b0_0 b0_1 b0_2 b0_3 b0_4 b0_5 b0_6 b0_7
       clear hb2 hb3 hb4 hb2c hb3c hb4c hb2f hb3f hb4f
       go_wp2_with fail
       first | (with_reducible refine (HP.out _).mono ?_) | (with_reducible refine (HPz.out _).mono ?_)
       rintro _ w5 ⟨rfl,hb5⟩;have hb5s:=hb5.size;(try simp only [wsA,wsS,wsD,wsN] at hb5s);obtain ⟨hb5c,hb5f⟩:=bcell hb5;(try have : w.heap.size < w5.heap.size:=by omega);(try have : w.heap.size + 1 < w5.heap.size:=by omega);(try have : w.heap.size + 1 + 1 < w5.heap.size:=by omega);(try have : w.heap.size + 1 + 1 + 1 < w5.heap.size:=by omega)
       have m0 : Bk w5 w1.heap.size 80 [.int .u64 (wd X 0),.int .u64 (wd X 1),.int .u64 (wd X 2),.int .u64 (wd X 3)]:=by exact bkk
       have m1 : Bk w5 (w.heap.size + 1) 27 [.bool false,.int .u64 0,.int .u64 0,.int .i64 0]:=by exact bkk
       have m0l:=m0.lt
       have m1l:=m1.lt
       clear hb5c hb5f
       go_wp2_with fail
       refine (HL.out _).mono ?_
       rintro _ w6 ⟨rfl,hb6⟩;have hb6s:=hb6.size;(try simp only [wsA,wsS,wsD,wsN] at hb6s);obtain ⟨hb6c,hb6f⟩:=bcell hb6;(try have : w.heap.size < w6.heap.size:=by omega);(try have : w.heap.size + 1 < w6.heap.size:=by omega);(try have : w.heap.size + 1 + 1 < w6.heap.size:=by omega);(try have : w.heap.size + 1 + 1 + 1 < w6.heap.size:=by omega)
       have n0 : Bk w6 w1.heap.size 80 [.int .u64 (wd X 0),.int .u64 (wd X 1),.int .u64 (wd X 2),.int .u64 (wd X 3)]:=by exact bkk
       have n1 : Bk w6 (w.heap.size + 1) 27 [.bool false,.int .u64 0,.int .u64 0,.int .i64 0]:=by exact bkk
       have n0l:=n0.lt
       have n1l:=n1.lt
       have nw : Below w.heap.size w w6:=by exact bel
       have n0_0:=n0.cell 0 rfl
       have n0_1:=n0.cell 1 rfl
       have n0_2:=n0.cell 2 rfl
       have n0_3:=n0.cell 3 rfl
       have n0_4:=n0.frozen 0
       have n0_5:=n0.frozen 1
       have n0_6:=n0.frozen 2
       have n0_7:=n0.frozen 3
       clear hb6c hb6f
      all_goals
       go_wp2_with fail
       refine (HPL.out _).mono ?_
       rintro _ w7 ⟨rfl,hb7⟩;have hb7s:=hb7.size;(try simp only [wsA,wsS,wsD,wsN] at hb7s);obtain ⟨hb7c,hb7f⟩:=bcell hb7;(try have : w.heap.size < w7.heap.size:=by omega);(try have : w.heap.size + 1 < w7.heap.size:=by omega);(try have : w.heap.size + 1 + 1 < w7.heap.size:=by omega);(try have : w.heap.size + 1 + 1 + 1 < w7.heap.size:=by omega)
       have q1 : Bk w7 (w.heap.size + 1) 27 [.bool false,.int .u64 0,.int .u64 0,.int .i64 0]:=by exact bkk
       have q1l:=q1.lt
       clear hb7c hb7f
       go_wp2_with fail
       first | (go_region_with fail) | fail
       all_goals
        go_wp2_with fail
        refine calls_named (fun W => Bk W (w.heap.size + 1) 27 [.bool false,.int .u64 0,.int .u64 0,.int .i64 0] ∧ Below w.heap.size w W) ⟨?h1, ?h2⟩ ?_
        case h1 => ((repeat (first|(with_reducible assumption)|((with_reducible refine bkW ?_);(first|rfl|(simp only [wsA,wsS,wsD,wsN];done)))|(with_reducible first|refine bkA ?_ _|refine bkD ?_|refine bkN ?_ _)|((with_reducible refine bkF ?_ ?_ _);focus (simp only [];omega))|((with_reducible refine bkB (by assumption) ?_ ?_);focus (go_size;done))));done)
        case h2 => ((repeat' first|(with_reducible first|exact blR _ _|assumption|refine blD ?_|refine blN ?_ _)|((with_reducible first|refine blA ?_ ?_ _|refine blS ?_ ?_ _|refine blT (by assumption) ?_ ?_);focus (go_size;done)));done)
        rintro V2 ⟨tr2,tw2⟩
        have tr2l:=tr2.lt
        refine (HF.out _).mono ?_
        rintro _ w8 ⟨rfl,hb8⟩;have hb8s:=hb8.size;(try simp only [wsA,wsS,wsD,wsN] at hb8s);obtain ⟨hb8c,hb8f⟩:=bcell hb8;(try have : w.heap.size < w8.heap.size:=by omega);(try have : w.heap.size + 1 < w8.heap.size:=by omega);(try have : w.heap.size + 1 + 1 < w8.heap.size:=by omega);(try have : w.heap.size + 1 + 1 + 1 < w8.heap.size:=by omega)
        have n8 : Bk w8 (w.heap.size + 1) 27 [.bool false,.int .u64 0,.int .u64 0,.int .i64 0]:=by exact bkk
        have n8_0:=n8.cell 0 rfl
        have n8_1:=n8.cell 1 rfl
        have n8_2:=n8.cell 2 rfl
        have n8_3:=n8.cell 3 rfl
        have n8_4:=n8.frozen 0
        have n8_5:=n8.frozen 1
        have n8_6:=n8.frozen 2
        have n8_7:=n8.frozen 3
        clear hb8c hb8f
        go_wp2_with fail
        refine bodyPost_ret (by simp [results,Tryz.results101,go_sem, *];try rfl) rfl ?_
        exact ⟨by rw [EC.out,ES.out,EE.out,HE.out,(nb_yes _).1,(nb_yes _).2.1,(nb_yes _).2.2,show ∀ x,sg false x = false from fun x => rfl],by exact bel⟩
    ·have hcc : 0 ≤ cmpN X Bd:=by unfold cmpN;split <;> (try split) <;> omega
     generalize cmpN X Bd = cc at *
     have he:=HRR.out
     rw [upK_up' (by rw [← HBD.out];rintro ⟨h,_⟩;exact hlt h)] at he
     have HE:=Far.mk he
     clear hlt he hrr hroom HRR hBd hX2 hstl hX3 b0 b1
     have b0:=HB0.out
     have b1:=HB1.out
     rw [lcells_eq] at b0
     have b0_0:=b0.cell 0 rfl
     have b0_1:=b0.cell 1 rfl
     have b0_2:=b0.cell 2 rfl
     have b0_3:=b0.cell 3 rfl
     have b0_4:=b0.frozen 0
     have b0_5:=b0.frozen 1
     have b0_6:=b0.frozen 2
     have b0_7:=b0.frozen 3
     go_wp2_with fail
     go_region_held3 (fun w' => (w'.cell? ⟨w1.heap.size,0,none⟩ = some (.int .u64 (wd X 0)) ∧ w'.cell? ⟨w1.heap.size,1,none⟩ = some (.int .u64 (wd X 1)) ∧ w'.cell? ⟨w1.heap.size,2,none⟩ = some (.int .u64 (wd X 2)) ∧ w'.cell? ⟨w1.heap.size,3,none⟩ = some (.int .u64 (wd X 3)))) (first | (first | (go_keep;done) | (simp [go_sem];done) | ((try dsimp only);(repeat' apply And.intro) <;> (first | (with_reducible assumption) | ((rw [World.cell?_alloc_lt _ _ _ (by show _ < _;omega)]);go_split_ands;(first | with_reducible assumption | (refine (World.cell?_alloc_lt _ _ _ (by show _ < _;omega)).symm.trans ?_;with_reducible assumption))) | ((rw [World.cell?_setCell_other _ _ _ _ (by intro e;injection e;omega)]);with_reducible assumption) | (go_keep;done) | (simp [go_sem];done) | (simp (disch:=go_size) [*,World.cell?_alloc_some,World.cell?_setCell_far];done)))) | ((refine ⟨Bk.cell (t:=80) (cs:=[.int .u64 (wd X 0),.int .u64 (wd X 1),.int .u64 (wd X 2),.int .u64 (wd X 3)]) ?_ 0 rfl,Bk.cell (t:=80) (cs:=[.int .u64 (wd X 0),.int .u64 (wd X 1),.int .u64 (wd X 2),.int .u64 (wd X 3)]) ?_ 1 rfl,Bk.cell (t:=80) (cs:=[.int .u64 (wd X 0),.int .u64 (wd X 1),.int .u64 (wd X 2),.int .u64 (wd X 3)]) ?_ 2 rfl,Bk.cell (t:=80) (cs:=[.int .u64 (wd X 0),.int .u64 (wd X 1),.int .u64 (wd X 2),.int .u64 (wd X 3)]) ?_ 3 rfl⟩) <;> ((repeat (first|(with_reducible assumption)|((with_reducible refine bkW ?_);(first|rfl|(simp only [wsA,wsS,wsD,wsN];done)))|(with_reducible first|refine bkA ?_ _|refine bkD ?_|refine bkN ?_ _)|((with_reducible refine bkF ?_ ?_ _);focus (simp only [];omega))|((with_reducible refine bkB (by assumption) ?_ ?_);focus (go_size;done))));done))) (first | (go_at_call 150;(with_reducible refine (HB34.out _).mono ?_);rintro _ w2 ⟨rfl,hb2⟩;have hb2s:=hb2.size;(try simp only [wsA,wsS,wsD,wsN] at hb2s);obtain ⟨hb2c,hb2f⟩:=bcell hb2;(try have : w.heap.size < w2.heap.size:=by omega);(try have : w.heap.size + 1 < w2.heap.size:=by omega);(try have : w.heap.size + 1 + 1 < w2.heap.size:=by omega);(try have : w.heap.size + 1 + 1 + 1 < w2.heap.size:=by omega);(try have : w1.heap.size < w2.heap.size:=by omega);(try have : w1.heap.size + 1 < w2.heap.size:=by omega);(try have : w1.heap.size + 1 + 1 < w2.heap.size:=by omega);(try have : w1.heap.size + 1 + 1 + 1 < w2.heap.size:=by omega)) | (go_at_call 71;(with_reducible refine (HT.out _).mono ?_);rintro _ w3 ⟨rfl,hb3⟩;have hb3s:=hb3.size;(try simp only [wsA,wsS,wsD,wsN] at hb3s);obtain ⟨hb3c,hb3f⟩:=bcell hb3;(try have : w.heap.size < w3.heap.size:=by omega);(try have : w.heap.size + 1 < w3.heap.size:=by omega);(try have : w.heap.size + 1 + 1 < w3.heap.size:=by omega);(try have : w.heap.size + 1 + 1 + 1 < w3.heap.size:=by omega);(try have : w1.heap.size < w3.heap.size:=by omega);(try have : w1.heap.size + 1 < w3.heap.size:=by omega);(try have : w1.heap.size + 1 + 1 < w3.heap.size:=by omega);(try have : w1.heap.size + 1 + 1 + 1 < w3.heap.size:=by omega);(try have : w2.heap.size < w3.heap.size:=by omega);(try have : w2.heap.size + 1 < w3.heap.size:=by omega);(try have : w2.heap.size + 1 + 1 < w3.heap.size:=by omega);(try have : w2.heap.size + 1 + 1 + 1 < w3.heap.size:=by omega)) | (go_at_call 71;(with_reducible refine (HTz.out _).mono ?_);rintro _ w3 ⟨rfl,hb3⟩;have hb3s:=hb3.size;(try simp only [wsA,wsS,wsD,wsN] at hb3s);obtain ⟨hb3c,hb3f⟩:=bcell hb3;(try have : w.heap.size < w3.heap.size:=by omega);(try have : w.heap.size + 1 < w3.heap.size:=by omega);(try have : w.heap.size + 1 + 1 < w3.heap.size:=by omega);(try have : w.heap.size + 1 + 1 + 1 < w3.heap.size:=by omega);(try have : w1.heap.size < w3.heap.size:=by omega);(try have : w1.heap.size + 1 < w3.heap.size:=by omega);(try have : w1.heap.size + 1 + 1 < w3.heap.size:=by omega);(try have : w1.heap.size + 1 + 1 + 1 < w3.heap.size:=by omega);(try have : w2.heap.size < w3.heap.size:=by omega);(try have : w2.heap.size + 1 < w3.heap.size:=by omega);(try have : w2.heap.size + 1 + 1 < w3.heap.size:=by omega);(try have : w2.heap.size + 1 + 1 + 1 < w3.heap.size:=by omega)) | (go_at_call 49;(with_reducible refine (HO.out _).mono ?_);rintro _ w4 ⟨rfl,hb4⟩;have hb4s:=hb4.size;(try simp only [wsA,wsS,wsD,wsN] at hb4s);obtain ⟨hb4c,hb4f⟩:=bcell hb4;(try have : w.heap.size < w4.heap.size:=by omega);(try have : w.heap.size + 1 < w4.heap.size:=by omega);(try have : w.heap.size + 1 + 1 < w4.heap.size:=by omega);(try have : w.heap.size + 1 + 1 + 1 < w4.heap.size:=by omega);(try have : w1.heap.size < w4.heap.size:=by omega);(try have : w1.heap.size + 1 < w4.heap.size:=by omega);(try have : w1.heap.size + 1 + 1 < w4.heap.size:=by omega);(try have : w1.heap.size + 1 + 1 + 1 < w4.heap.size:=by omega);(try have : w3.heap.size < w4.heap.size:=by omega);(try have : w3.heap.size + 1 < w4.heap.size:=by omega);(try have : w3.heap.size + 1 + 1 < w4.heap.size:=by omega);(try have : w3.heap.size + 1 + 1 + 1 < w4.heap.size:=by omega)))
     all_goals
      refine wp_named (fun W => Bk W w1.heap.size 80 [.int .u64 (wd X 0),.int .u64 (wd X 1),.int .u64 (wd X 2),.int .u64 (wd X 3)] ∧ Bk W (w.heap.size + 1) 27 [.bool false,.int .u64 0,.int .u64 0,.int .i64 0] ∧ Below w.heap.size w W) ⟨?h1, ?h2, ?h3⟩ ?_
      case h1 => ((repeat (first|(with_reducible assumption)|((with_reducible refine bkW ?_);(first|rfl|(simp only [wsA,wsS,wsD,wsN];done)))|(with_reducible first|refine bkA ?_ _|refine bkD ?_|refine bkN ?_ _)|((with_reducible refine bkF ?_ ?_ _);focus (simp only [];omega))|((with_reducible refine bkB (by assumption) ?_ ?_);focus (go_size;done))));done)
      case h2 => ((repeat (first|(with_reducible assumption)|((with_reducible refine bkW ?_);(first|rfl|(simp only [wsA,wsS,wsD,wsN];done)))|(with_reducible first|refine bkA ?_ _|refine bkD ?_|refine bkN ?_ _)|((with_reducible refine bkF ?_ ?_ _);focus (simp only [];omega))|((with_reducible refine bkB (by assumption) ?_ ?_);focus (go_size;done))));done)
      case h3 => ((repeat' first|(with_reducible first|exact blR _ _|assumption|refine blD ?_|refine blN ?_ _)|((with_reducible first|refine blA ?_ ?_ _|refine blS ?_ ?_ _|refine blT (by assumption) ?_ ?_);focus (go_size;done)));done)
      rintro W1 ⟨k0,k1,kw⟩
      have k0l:=k0.lt
      have k1l:=k1.lt
      clear b0_0 b0_1 b0_2 b0_3 b0_4 b0_5 b0_6 b0_7
      clear hb2 hb3 hb4 hb2c hb3c hb4c hb2f hb3f hb4f
      go_wp2_with fail
      first | (with_reducible refine (HP.out _).mono ?_) | (with_reducible refine (HPz.out _).mono ?_)
      rintro _ w5 ⟨rfl,hb5⟩;have hb5s:=hb5.size;(try simp only [wsA,wsS,wsD,wsN] at hb5s);obtain ⟨hb5c,hb5f⟩:=bcell hb5;(try have : w.heap.size < w5.heap.size:=by omega);(try have : w.heap.size + 1 < w5.heap.size:=by omega);(try have : w.heap.size + 1 + 1 < w5.heap.size:=by omega);(try have : w.heap.size + 1 + 1 + 1 < w5.heap.size:=by omega)
      have m0 : Bk w5 w1.heap.size 80 [.int .u64 (wd X 0),.int .u64 (wd X 1),.int .u64 (wd X 2),.int .u64 (wd X 3)]:=by exact bkk
      have m1 : Bk w5 (w.heap.size + 1) 27 [.bool false,.int .u64 0,.int .u64 0,.int .i64 0]:=by exact bkk
      have m0l:=m0.lt
      have m1l:=m1.lt
      clear hb5c hb5f
      go_wp2_with fail
      refine (HL.out _).mono ?_
      rintro _ w6 ⟨rfl,hb6⟩;have hb6s:=hb6.size;(try simp only [wsA,wsS,wsD,wsN] at hb6s);obtain ⟨hb6c,hb6f⟩:=bcell hb6;(try have : w.heap.size < w6.heap.size:=by omega);(try have : w.heap.size + 1 < w6.heap.size:=by omega);(try have : w.heap.size + 1 + 1 < w6.heap.size:=by omega);(try have : w.heap.size + 1 + 1 + 1 < w6.heap.size:=by omega)
      have n0 : Bk w6 w1.heap.size 80 [.int .u64 (wd X 0),.int .u64 (wd X 1),.int .u64 (wd X 2),.int .u64 (wd X 3)]:=by exact bkk
      have n1 : Bk w6 (w.heap.size + 1) 27 [.bool false,.int .u64 0,.int .u64 0,.int .i64 0]:=by exact bkk
      have n0l:=n0.lt
      have n1l:=n1.lt
      have nw : Below w.heap.size w w6:=by exact bel
      have n0_0:=n0.cell 0 rfl
      have n0_1:=n0.cell 1 rfl
      have n0_2:=n0.cell 2 rfl
      have n0_3:=n0.cell 3 rfl
      have n0_4:=n0.frozen 0
      have n0_5:=n0.frozen 1
      have n0_6:=n0.frozen 2
      have n0_7:=n0.frozen 3
      clear hb6c hb6f
     all_goals
      go_wp2_with fail
      go_roundg j
      case measure => omega
      case rel => exact ⟨by omega,rfl,HE,Far.mk (by simp),by rw [lcells_eq];exact bkk,by exact bkk,by go_size,by exact bel⟩
   ·have HRR : Far (r = upK X true (j + 1)):=hrr
    by_cases hle : X ≤ Bd
    ·have hcc : cmpN X Bd ≤ 0:=by unfold cmpN;split <;> (try split) <;> omega
     have hroom2 : st ≤ X:=by
      rw [HST.out]
      refine down_room (HX0.out rfl) jn ?_
      rcases hroom.out with h | h | h
      ·left;omega
      ·right;exact h
      ·cases h
     have HM:=Lib.hid (fun W => minus4_any X st hX2 hroom2 W)
     have HF : Hid (∀ W,Calls Tryz.prog 151 #[.bool false,.agg #[.int .u64 (wd (X - st) 0),.int .u64 (wd (X - st) 1),.int .u64 (wd (X - st) 2),.int .u64 (wd (X - st) 3)],.int .i64 18] W fun e w' => e = .returned (.tuple #[.agg #[.bool (sg false (FitC ((X - st)) (10 ^ 18))),.int .u64 (wd (FitC ((X - st)) (10 ^ 18)) 1),.int .u64 (wd (FitC ((X - st)) (10 ^ 18)) 0),.int .i64 (FitS ((X - st)) (10 ^ 18))],.int .i64 (FitE (X - st) (10 ^ 18))]) ∧ Below W.heap.size W w'):=Lib.hid (fun W => fit_any false (X - st) 18 (by omega) (by decide) W)
     generalize cmpN X Bd = cc at *
     have he:=HRR.out
     rw [upK_down (by rw [← HBD.out];exact hle),← HST.out] at he
     have HE:=Far.mk he
     clear hle he hrr hroom HRR hBd hX2 hstl hX3 hroom2 b0 b1
     have b0:=HB0.out
     have b1:=HB1.out
     rw [lcells_eq] at b0
     have b0_0:=b0.cell 0 rfl
     have b0_1:=b0.cell 1 rfl
     have b0_2:=b0.cell 2 rfl
     have b0_3:=b0.cell 3 rfl
     have b0_4:=b0.frozen 0
     have b0_5:=b0.frozen 1
     have b0_6:=b0.frozen 2
     have b0_7:=b0.frozen 3
     go_wp2_with fail
     go_region_held3 (fun w' => (w'.cell? ⟨w1.heap.size,0,none⟩ = some (.int .u64 (wd X 0)) ∧ w'.cell? ⟨w1.heap.size,1,none⟩ = some (.int .u64 (wd X 1)) ∧ w'.cell? ⟨w1.heap.size,2,none⟩ = some (.int .u64 (wd X 2)) ∧ w'.cell? ⟨w1.heap.size,3,none⟩ = some (.int .u64 (wd X 3)))) (first | (first | (go_keep;done) | (simp [go_sem];done) | ((try dsimp only);(repeat' apply And.intro) <;> (first | (with_reducible assumption) | ((rw [World.cell?_alloc_lt _ _ _ (by show _ < _;omega)]);go_split_ands;(first | with_reducible assumption | (refine (World.cell?_alloc_lt _ _ _ (by show _ < _;omega)).symm.trans ?_;with_reducible assumption))) | ((rw [World.cell?_setCell_other _ _ _ _ (by intro e;injection e;omega)]);with_reducible assumption) | (go_keep;done) | (simp [go_sem];done) | (simp (disch:=go_size) [*,World.cell?_alloc_some,World.cell?_setCell_far];done)))) | ((refine ⟨Bk.cell (t:=80) (cs:=[.int .u64 (wd X 0),.int .u64 (wd X 1),.int .u64 (wd X 2),.int .u64 (wd X 3)]) ?_ 0 rfl,Bk.cell (t:=80) (cs:=[.int .u64 (wd X 0),.int .u64 (wd X 1),.int .u64 (wd X 2),.int .u64 (wd X 3)]) ?_ 1 rfl,Bk.cell (t:=80) (cs:=[.int .u64 (wd X 0),.int .u64 (wd X 1),.int .u64 (wd X 2),.int .u64 (wd X 3)]) ?_ 2 rfl,Bk.cell (t:=80) (cs:=[.int .u64 (wd X 0),.int .u64 (wd X 1),.int .u64 (wd X 2),.int .u64 (wd X 3)]) ?_ 3 rfl⟩) <;> ((repeat (first|(with_reducible assumption)|((with_reducible refine bkW ?_);(first|rfl|(simp only [wsA,wsS,wsD,wsN];done)))|(with_reducible first|refine bkA ?_ _|refine bkD ?_|refine bkN ?_ _)|((with_reducible refine bkF ?_ ?_ _);focus (simp only [];omega))|((with_reducible refine bkB (by assumption) ?_ ?_);focus (go_size;done))));done))) (first | (go_at_call 150;(with_reducible refine (HB34.out _).mono ?_);rintro _ w2 ⟨rfl,hb2⟩;have hb2s:=hb2.size;(try simp only [wsA,wsS,wsD,wsN] at hb2s);obtain ⟨hb2c,hb2f⟩:=bcell hb2;(try have : w.heap.size < w2.heap.size:=by omega);(try have : w.heap.size + 1 < w2.heap.size:=by omega);(try have : w.heap.size + 1 + 1 < w2.heap.size:=by omega);(try have : w.heap.size + 1 + 1 + 1 < w2.heap.size:=by omega);(try have : w1.heap.size < w2.heap.size:=by omega);(try have : w1.heap.size + 1 < w2.heap.size:=by omega);(try have : w1.heap.size + 1 + 1 < w2.heap.size:=by omega);(try have : w1.heap.size + 1 + 1 + 1 < w2.heap.size:=by omega)) | (go_at_call 71;(with_reducible refine (HT.out _).mono ?_);rintro _ w3 ⟨rfl,hb3⟩;have hb3s:=hb3.size;(try simp only [wsA,wsS,wsD,wsN] at hb3s);obtain ⟨hb3c,hb3f⟩:=bcell hb3;(try have : w.heap.size < w3.heap.size:=by omega);(try have : w.heap.size + 1 < w3.heap.size:=by omega);(try have : w.heap.size + 1 + 1 < w3.heap.size:=by omega);(try have : w.heap.size + 1 + 1 + 1 < w3.heap.size:=by omega);(try have : w1.heap.size < w3.heap.size:=by omega);(try have : w1.heap.size + 1 < w3.heap.size:=by omega);(try have : w1.heap.size + 1 + 1 < w3.heap.size:=by omega);(try have : w1.heap.size + 1 + 1 + 1 < w3.heap.size:=by omega);(try have : w2.heap.size < w3.heap.size:=by omega);(try have : w2.heap.size + 1 < w3.heap.size:=by omega);(try have : w2.heap.size + 1 + 1 < w3.heap.size:=by omega);(try have : w2.heap.size + 1 + 1 + 1 < w3.heap.size:=by omega)) | (go_at_call 71;(with_reducible refine (HTz.out _).mono ?_);rintro _ w3 ⟨rfl,hb3⟩;have hb3s:=hb3.size;(try simp only [wsA,wsS,wsD,wsN] at hb3s);obtain ⟨hb3c,hb3f⟩:=bcell hb3;(try have : w.heap.size < w3.heap.size:=by omega);(try have : w.heap.size + 1 < w3.heap.size:=by omega);(try have : w.heap.size + 1 + 1 < w3.heap.size:=by omega);(try have : w.heap.size + 1 + 1 + 1 < w3.heap.size:=by omega);(try have : w1.heap.size < w3.heap.size:=by omega);(try have : w1.heap.size + 1 < w3.heap.size:=by omega);(try have : w1.heap.size + 1 + 1 < w3.heap.size:=by omega);(try have : w1.heap.size + 1 + 1 + 1 < w3.heap.size:=by omega);(try have : w2.heap.size < w3.heap.size:=by omega);(try have : w2.heap.size + 1 < w3.heap.size:=by omega);(try have : w2.heap.size + 1 + 1 < w3.heap.size:=by omega);(try have : w2.heap.size + 1 + 1 + 1 < w3.heap.size:=by omega)) | (go_at_call 49;(with_reducible refine (HO.out _).mono ?_);rintro _ w4 ⟨rfl,hb4⟩;have hb4s:=hb4.size;(try simp only [wsA,wsS,wsD,wsN] at hb4s);obtain ⟨hb4c,hb4f⟩:=bcell hb4;(try have : w.heap.size < w4.heap.size:=by omega);(try have : w.heap.size + 1 < w4.heap.size:=by omega);(try have : w.heap.size + 1 + 1 < w4.heap.size:=by omega);(try have : w.heap.size + 1 + 1 + 1 < w4.heap.size:=by omega);(try have : w1.heap.size < w4.heap.size:=by omega);(try have : w1.heap.size + 1 < w4.heap.size:=by omega);(try have : w1.heap.size + 1 + 1 < w4.heap.size:=by omega);(try have : w1.heap.size + 1 + 1 + 1 < w4.heap.size:=by omega);(try have : w3.heap.size < w4.heap.size:=by omega);(try have : w3.heap.size + 1 < w4.heap.size:=by omega);(try have : w3.heap.size + 1 + 1 < w4.heap.size:=by omega);(try have : w3.heap.size + 1 + 1 + 1 < w4.heap.size:=by omega)))
     all_goals
      refine wp_named (fun W => Bk W w1.heap.size 80 [.int .u64 (wd X 0),.int .u64 (wd X 1),.int .u64 (wd X 2),.int .u64 (wd X 3)] ∧ Bk W (w.heap.size + 1) 27 [.bool false,.int .u64 0,.int .u64 0,.int .i64 0] ∧ Below w.heap.size w W) ⟨?h1, ?h2, ?h3⟩ ?_
      case h1 => ((repeat (first|(with_reducible assumption)|((with_reducible refine bkW ?_);(first|rfl|(simp only [wsA,wsS,wsD,wsN];done)))|(with_reducible first|refine bkA ?_ _|refine bkD ?_|refine bkN ?_ _)|((with_reducible refine bkF ?_ ?_ _);focus (simp only [];omega))|((with_reducible refine bkB (by assumption) ?_ ?_);focus (go_size;done))));done)
      case h2 => ((repeat (first|(with_reducible assumption)|((with_reducible refine bkW ?_);(first|rfl|(simp only [wsA,wsS,wsD,wsN];done)))|(with_reducible first|refine bkA ?_ _|refine bkD ?_|refine bkN ?_ _)|((with_reducible refine bkF ?_ ?_ _);focus (simp only [];omega))|((with_reducible refine bkB (by assumption) ?_ ?_);focus (go_size;done))));done)
      case h3 => ((repeat' first|(with_reducible first|exact blR _ _|assumption|refine blD ?_|refine blN ?_ _)|((with_reducible first|refine blA ?_ ?_ _|refine blS ?_ ?_ _|refine blT (by assumption) ?_ ?_);focus (go_size;done)));done)
      rintro W1 ⟨k0,k1,kw⟩
      have k0l:=k0.lt
      have k1l:=k1.lt
      clear b0_0 b0_1 b0_2 b0_3 b0_4 b0_5 b0_6 b0_7
      clear hb2 hb3 hb4 hb2c hb3c hb4c hb2f hb3f hb4f
      go_wp2_with fail
      first | (with_reducible refine (HP.out _).mono ?_) | (with_reducible refine (HPz.out _).mono ?_)
      rintro _ w5 ⟨rfl,hb5⟩;have hb5s:=hb5.size;(try simp only [wsA,wsS,wsD,wsN] at hb5s);obtain ⟨hb5c,hb5f⟩:=bcell hb5;(try have : w.heap.size < w5.heap.size:=by omega);(try have : w.heap.size + 1 < w5.heap.size:=by omega);(try have : w.heap.size + 1 + 1 < w5.heap.size:=by omega);(try have : w.heap.size + 1 + 1 + 1 < w5.heap.size:=by omega)
      have m0 : Bk w5 w1.heap.size 80 [.int .u64 (wd X 0),.int .u64 (wd X 1),.int .u64 (wd X 2),.int .u64 (wd X 3)]:=by exact bkk
      have m1 : Bk w5 (w.heap.size + 1) 27 [.bool false,.int .u64 0,.int .u64 0,.int .i64 0]:=by exact bkk
      have m0l:=m0.lt
      have m1l:=m1.lt
      clear hb5c hb5f
      go_wp2_with fail
      refine (HL.out _).mono ?_
      rintro _ w6 ⟨rfl,hb6⟩;have hb6s:=hb6.size;(try simp only [wsA,wsS,wsD,wsN] at hb6s);obtain ⟨hb6c,hb6f⟩:=bcell hb6;(try have : w.heap.size < w6.heap.size:=by omega);(try have : w.heap.size + 1 < w6.heap.size:=by omega);(try have : w.heap.size + 1 + 1 < w6.heap.size:=by omega);(try have : w.heap.size + 1 + 1 + 1 < w6.heap.size:=by omega)
      have n0 : Bk w6 w1.heap.size 80 [.int .u64 (wd X 0),.int .u64 (wd X 1),.int .u64 (wd X 2),.int .u64 (wd X 3)]:=by exact bkk
      have n1 : Bk w6 (w.heap.size + 1) 27 [.bool false,.int .u64 0,.int .u64 0,.int .i64 0]:=by exact bkk
      have n0l:=n0.lt
      have n1l:=n1.lt
      have nw : Below w.heap.size w w6:=by exact bel
      have n0_0:=n0.cell 0 rfl
      have n0_1:=n0.cell 1 rfl
      have n0_2:=n0.cell 2 rfl
      have n0_3:=n0.cell 3 rfl
      have n0_4:=n0.frozen 0
      have n0_5:=n0.frozen 1
      have n0_6:=n0.frozen 2
      have n0_7:=n0.frozen 3
      clear hb6c hb6f
     all_goals
      go_wp2_with fail
      refine (HM.out _).mono ?_
      rintro _ w7 ⟨rfl,hb7⟩;have hb7s:=hb7.size;(try simp only [wsA,wsS,wsD,wsN] at hb7s);obtain ⟨hb7c,hb7f⟩:=bcell hb7;(try have : w.heap.size < w7.heap.size:=by omega);(try have : w.heap.size + 1 < w7.heap.size:=by omega);(try have : w.heap.size + 1 + 1 < w7.heap.size:=by omega);(try have : w.heap.size + 1 + 1 + 1 < w7.heap.size:=by omega)
      have q1 : Bk w7 (w.heap.size + 1) 27 [.bool false,.int .u64 0,.int .u64 0,.int .i64 0]:=by exact bkk
      have q1l:=q1.lt
      clear hb7c hb7f
      go_wp2_with fail
      refine (HF.out _).mono ?_
      rintro _ w8 ⟨rfl,hb8⟩;have hb8s:=hb8.size;(try simp only [wsA,wsS,wsD,wsN] at hb8s);obtain ⟨hb8c,hb8f⟩:=bcell hb8;(try have : w.heap.size < w8.heap.size:=by omega);(try have : w.heap.size + 1 < w8.heap.size:=by omega);(try have : w.heap.size + 1 + 1 < w8.heap.size:=by omega);(try have : w.heap.size + 1 + 1 + 1 < w8.heap.size:=by omega)
      have n8 : Bk w8 (w.heap.size + 1) 27 [.bool false,.int .u64 0,.int .u64 0,.int .i64 0]:=by exact bkk
      have n8_0:=n8.cell 0 rfl
      have n8_1:=n8.cell 1 rfl
      have n8_2:=n8.cell 2 rfl
      have n8_3:=n8.cell 3 rfl
      have n8_4:=n8.frozen 0
      have n8_5:=n8.frozen 1
      have n8_6:=n8.frozen 2
      have n8_7:=n8.frozen 3
      clear hb8c hb8f
      go_wp2_with fail
      refine bodyPost_ret (by simp [results,Tryz.results101,go_sem, *];try rfl) rfl ?_
      exact ⟨by rw [EC.out,ES.out,EE.out,HE.out,(nb_yes _).1,(nb_yes _).2.1,(nb_yes _).2.2,show ∀ x,sg false x = false from fun x => rfl],by exact bel⟩
    ·have hcc : ¬ cmpN X Bd ≤ 0:=by unfold cmpN;rw [if_neg (by omega),if_neg (by omega)];decide
     have hc2 : 0 ≤ cmpN X Bd:=by omega
     generalize cmpN X Bd = cc at *
     have he:=HRR.out
     rw [upK_down' (by rw [← HBD.out];exact hle)] at he
     have HE:=Far.mk he
     have hnr : Far (j = 19 ∨ B34 * 10 ^ (18 - j) < X ∨ true = false):=Far.mk (.inr (.inl (by rw [← HBD.out];omega)))
     clear hle he hrr hroom HRR hBd hX2 hstl hX3 b0 b1
     have b0:=HB0.out
     have b1:=HB1.out
     rw [lcells_eq] at b0
     have b0_0:=b0.cell 0 rfl
     have b0_1:=b0.cell 1 rfl
     have b0_2:=b0.cell 2 rfl
     have b0_3:=b0.cell 3 rfl
     have b0_4:=b0.frozen 0
     have b0_5:=b0.frozen 1
     have b0_6:=b0.frozen 2
     have b0_7:=b0.frozen 3
     go_wp2_with fail
     go_region_held3 (fun w' => (w'.cell? ⟨w1.heap.size,0,none⟩ = some (.int .u64 (wd X 0)) ∧ w'.cell? ⟨w1.heap.size,1,none⟩ = some (.int .u64 (wd X 1)) ∧ w'.cell? ⟨w1.heap.size,2,none⟩ = some (.int .u64 (wd X 2)) ∧ w'.cell? ⟨w1.heap.size,3,none⟩ = some (.int .u64 (wd X 3)))) (first | (first | (go_keep;done) | (simp [go_sem];done) | ((try dsimp only);(repeat' apply And.intro) <;> (first | (with_reducible assumption) | ((rw [World.cell?_alloc_lt _ _ _ (by show _ < _;omega)]);go_split_ands;(first | with_reducible assumption | (refine (World.cell?_alloc_lt _ _ _ (by show _ < _;omega)).symm.trans ?_;with_reducible assumption))) | ((rw [World.cell?_setCell_other _ _ _ _ (by intro e;injection e;omega)]);with_reducible assumption) | (go_keep;done) | (simp [go_sem];done) | (simp (disch:=go_size) [*,World.cell?_alloc_some,World.cell?_setCell_far];done)))) | ((refine ⟨Bk.cell (t:=80) (cs:=[.int .u64 (wd X 0),.int .u64 (wd X 1),.int .u64 (wd X 2),.int .u64 (wd X 3)]) ?_ 0 rfl,Bk.cell (t:=80) (cs:=[.int .u64 (wd X 0),.int .u64 (wd X 1),.int .u64 (wd X 2),.int .u64 (wd X 3)]) ?_ 1 rfl,Bk.cell (t:=80) (cs:=[.int .u64 (wd X 0),.int .u64 (wd X 1),.int .u64 (wd X 2),.int .u64 (wd X 3)]) ?_ 2 rfl,Bk.cell (t:=80) (cs:=[.int .u64 (wd X 0),.int .u64 (wd X 1),.int .u64 (wd X 2),.int .u64 (wd X 3)]) ?_ 3 rfl⟩) <;> ((repeat (first|(with_reducible assumption)|((with_reducible refine bkW ?_);(first|rfl|(simp only [wsA,wsS,wsD,wsN];done)))|(with_reducible first|refine bkA ?_ _|refine bkD ?_|refine bkN ?_ _)|((with_reducible refine bkF ?_ ?_ _);focus (simp only [];omega))|((with_reducible refine bkB (by assumption) ?_ ?_);focus (go_size;done))));done))) (first | (go_at_call 150;(with_reducible refine (HB34.out _).mono ?_);rintro _ w2 ⟨rfl,hb2⟩;have hb2s:=hb2.size;(try simp only [wsA,wsS,wsD,wsN] at hb2s);obtain ⟨hb2c,hb2f⟩:=bcell hb2;(try have : w.heap.size < w2.heap.size:=by omega);(try have : w.heap.size + 1 < w2.heap.size:=by omega);(try have : w.heap.size + 1 + 1 < w2.heap.size:=by omega);(try have : w.heap.size + 1 + 1 + 1 < w2.heap.size:=by omega);(try have : w1.heap.size < w2.heap.size:=by omega);(try have : w1.heap.size + 1 < w2.heap.size:=by omega);(try have : w1.heap.size + 1 + 1 < w2.heap.size:=by omega);(try have : w1.heap.size + 1 + 1 + 1 < w2.heap.size:=by omega)) | (go_at_call 71;(with_reducible refine (HT.out _).mono ?_);rintro _ w3 ⟨rfl,hb3⟩;have hb3s:=hb3.size;(try simp only [wsA,wsS,wsD,wsN] at hb3s);obtain ⟨hb3c,hb3f⟩:=bcell hb3;(try have : w.heap.size < w3.heap.size:=by omega);(try have : w.heap.size + 1 < w3.heap.size:=by omega);(try have : w.heap.size + 1 + 1 < w3.heap.size:=by omega);(try have : w.heap.size + 1 + 1 + 1 < w3.heap.size:=by omega);(try have : w1.heap.size < w3.heap.size:=by omega);(try have : w1.heap.size + 1 < w3.heap.size:=by omega);(try have : w1.heap.size + 1 + 1 < w3.heap.size:=by omega);(try have : w1.heap.size + 1 + 1 + 1 < w3.heap.size:=by omega);(try have : w2.heap.size < w3.heap.size:=by omega);(try have : w2.heap.size + 1 < w3.heap.size:=by omega);(try have : w2.heap.size + 1 + 1 < w3.heap.size:=by omega);(try have : w2.heap.size + 1 + 1 + 1 < w3.heap.size:=by omega)) | (go_at_call 71;(with_reducible refine (HTz.out _).mono ?_);rintro _ w3 ⟨rfl,hb3⟩;have hb3s:=hb3.size;(try simp only [wsA,wsS,wsD,wsN] at hb3s);obtain ⟨hb3c,hb3f⟩:=bcell hb3;(try have : w.heap.size < w3.heap.size:=by omega);(try have : w.heap.size + 1 < w3.heap.size:=by omega);(try have : w.heap.size + 1 + 1 < w3.heap.size:=by omega);(try have : w.heap.size + 1 + 1 + 1 < w3.heap.size:=by omega);(try have : w1.heap.size < w3.heap.size:=by omega);(try have : w1.heap.size + 1 < w3.heap.size:=by omega);(try have : w1.heap.size + 1 + 1 < w3.heap.size:=by omega);(try have : w1.heap.size + 1 + 1 + 1 < w3.heap.size:=by omega);(try have : w2.heap.size < w3.heap.size:=by omega);(try have : w2.heap.size + 1 < w3.heap.size:=by omega);(try have : w2.heap.size + 1 + 1 < w3.heap.size:=by omega);(try have : w2.heap.size + 1 + 1 + 1 < w3.heap.size:=by omega)) | (go_at_call 49;(with_reducible refine (HO.out _).mono ?_);rintro _ w4 ⟨rfl,hb4⟩;have hb4s:=hb4.size;(try simp only [wsA,wsS,wsD,wsN] at hb4s);obtain ⟨hb4c,hb4f⟩:=bcell hb4;(try have : w.heap.size < w4.heap.size:=by omega);(try have : w.heap.size + 1 < w4.heap.size:=by omega);(try have : w.heap.size + 1 + 1 < w4.heap.size:=by omega);(try have : w.heap.size + 1 + 1 + 1 < w4.heap.size:=by omega);(try have : w1.heap.size < w4.heap.size:=by omega);(try have : w1.heap.size + 1 < w4.heap.size:=by omega);(try have : w1.heap.size + 1 + 1 < w4.heap.size:=by omega);(try have : w1.heap.size + 1 + 1 + 1 < w4.heap.size:=by omega);(try have : w3.heap.size < w4.heap.size:=by omega);(try have : w3.heap.size + 1 < w4.heap.size:=by omega);(try have : w3.heap.size + 1 + 1 < w4.heap.size:=by omega);(try have : w3.heap.size + 1 + 1 + 1 < w4.heap.size:=by omega)))
     all_goals
      refine wp_named (fun W => Bk W w1.heap.size 80 [.int .u64 (wd X 0),.int .u64 (wd X 1),.int .u64 (wd X 2),.int .u64 (wd X 3)] ∧ Bk W (w.heap.size + 1) 27 [.bool false,.int .u64 0,.int .u64 0,.int .i64 0] ∧ Below w.heap.size w W) ⟨?h1, ?h2, ?h3⟩ ?_
      case h1 => ((repeat (first|(with_reducible assumption)|((with_reducible refine bkW ?_);(first|rfl|(simp only [wsA,wsS,wsD,wsN];done)))|(with_reducible first|refine bkA ?_ _|refine bkD ?_|refine bkN ?_ _)|((with_reducible refine bkF ?_ ?_ _);focus (simp only [];omega))|((with_reducible refine bkB (by assumption) ?_ ?_);focus (go_size;done))));done)
      case h2 => ((repeat (first|(with_reducible assumption)|((with_reducible refine bkW ?_);(first|rfl|(simp only [wsA,wsS,wsD,wsN];done)))|(with_reducible first|refine bkA ?_ _|refine bkD ?_|refine bkN ?_ _)|((with_reducible refine bkF ?_ ?_ _);focus (simp only [];omega))|((with_reducible refine bkB (by assumption) ?_ ?_);focus (go_size;done))));done)
      case h3 => ((repeat' first|(with_reducible first|exact blR _ _|assumption|refine blD ?_|refine blN ?_ _)|((with_reducible first|refine blA ?_ ?_ _|refine blS ?_ ?_ _|refine blT (by assumption) ?_ ?_);focus (go_size;done)));done)
      rintro W1 ⟨k0,k1,kw⟩
      have k0l:=k0.lt
      have k1l:=k1.lt
      clear b0_0 b0_1 b0_2 b0_3 b0_4 b0_5 b0_6 b0_7
      clear hb2 hb3 hb4 hb2c hb3c hb4c hb2f hb3f hb4f
      go_wp2_with fail
      first | (with_reducible refine (HP.out _).mono ?_) | (with_reducible refine (HPz.out _).mono ?_)
      rintro _ w5 ⟨rfl,hb5⟩;have hb5s:=hb5.size;(try simp only [wsA,wsS,wsD,wsN] at hb5s);obtain ⟨hb5c,hb5f⟩:=bcell hb5;(try have : w.heap.size < w5.heap.size:=by omega);(try have : w.heap.size + 1 < w5.heap.size:=by omega);(try have : w.heap.size + 1 + 1 < w5.heap.size:=by omega);(try have : w.heap.size + 1 + 1 + 1 < w5.heap.size:=by omega)
      have m0 : Bk w5 w1.heap.size 80 [.int .u64 (wd X 0),.int .u64 (wd X 1),.int .u64 (wd X 2),.int .u64 (wd X 3)]:=by exact bkk
      have m1 : Bk w5 (w.heap.size + 1) 27 [.bool false,.int .u64 0,.int .u64 0,.int .i64 0]:=by exact bkk
      have m0l:=m0.lt
      have m1l:=m1.lt
      clear hb5c hb5f
      go_wp2_with fail
      refine (HL.out _).mono ?_
      rintro _ w6 ⟨rfl,hb6⟩;have hb6s:=hb6.size;(try simp only [wsA,wsS,wsD,wsN] at hb6s);obtain ⟨hb6c,hb6f⟩:=bcell hb6;(try have : w.heap.size < w6.heap.size:=by omega);(try have : w.heap.size + 1 < w6.heap.size:=by omega);(try have : w.heap.size + 1 + 1 < w6.heap.size:=by omega);(try have : w.heap.size + 1 + 1 + 1 < w6.heap.size:=by omega)
      have n0 : Bk w6 w1.heap.size 80 [.int .u64 (wd X 0),.int .u64 (wd X 1),.int .u64 (wd X 2),.int .u64 (wd X 3)]:=by exact bkk
      have n1 : Bk w6 (w.heap.size + 1) 27 [.bool false,.int .u64 0,.int .u64 0,.int .i64 0]:=by exact bkk
      have n0l:=n0.lt
      have n1l:=n1.lt
      have nw : Below w.heap.size w w6:=by exact bel
      have n0_0:=n0.cell 0 rfl
      have n0_1:=n0.cell 1 rfl
      have n0_2:=n0.cell 2 rfl
      have n0_3:=n0.cell 3 rfl
      have n0_4:=n0.frozen 0
      have n0_5:=n0.frozen 1
      have n0_6:=n0.frozen 2
      have n0_7:=n0.frozen 3
      clear hb6c hb6f
     all_goals
      go_wp2_with fail
      go_roundg j
      case measure => omega
      case rel => exact ⟨by omega,rfl,HE,hnr,by rw [lcells_eq];exact bkk,by exact bkk,by go_size,by exact bel⟩
end Go.Proofs.YtbnadlpkbbdgjaaGreatDoor

