/- The contracts of the functions that the laws reach, part 9: what each returns and what becomes of memory. -/
import Derived.Deep.RegionHeld3
import Derived.Test.YtbnadlpkbbdgjaaGreatDoorM8
set_option linter.unusedSimpArgs false
set_option linter.unusedVariables false


namespace Go.Proofs.YtbnadlpkbbdgjaaGreatDoor
open Go.RowKit

theorem add_dig (X : Nat) (hX : X < 2 ^ 128) (d : Int) (h0 : 0 ≤ d) (h9 : d ≤ 9) (W : World) : Calls Tryz.prog 145 #[.agg #[.int .u64 (wd X 1),.int .u64 (wd X 0)],.agg #[.int .u64 0,.int .u64 d]] W fun e w' => e = .returned (.tuple #[.agg #[.int .u64 (wd (fitW (X + d.toNat)) 1),.int .u64 (wd (fitW (X + d.toNat)) 0)],.int .i64 (over (X + d.toNat))]) ∧ Below W.heap.size W w':=by
 obtain ⟨k,rfl⟩:=Int.eq_ofNat_of_zero_le h0
 have h:=add_any X k hX (by omega) W
 have b0 : wd k 0 = (k : Int):=by rw [wd0];omega
 have b1 : wd k 1 = 0:=wd_past (k:=1) (by rw [Nat.mul_one];omega) (Nat.le_refl _)
 rw [b0,b1] at h
 rw [Int.toNat_natCast]
 exact h
theorem rd_over {l : List UInt8} (h : ¬ dvb l 0 < 2 ^ 128) : rdN l = 0 ∧ rdE l = 3:=by
 unfold rdN rdE fitW over
 rw [if_neg h,if_neg h]
 exact ⟨rfl,rfl⟩
theorem fit_no {X : Nat} (h : ¬ X < 2 ^ 128) : fitW X = 0:=by unfold fitW;rw [if_neg h]
theorem over_no {X : Nat} (h : ¬ X < 2 ^ 128) : over X = 3:=by unfold over;rw [if_neg h]
theorem rd_fits {l : List UInt8} (h : dvb l 0 < 2 ^ 128) : rdN l = dvb l 0 ∧ rdE l = 0:=by
 unfold rdN rdE fitW over
 rw [if_pos h,if_pos h]
 exact ⟨rfl,rfl⟩
theorem dvb_take_le (l : List UInt8) (t : Nat) : dvb (l.take t) 0 ≤ dvb l 0:=by
 have e:=dvb_split (l.take t) (l.drop t) 0
 rw [List.take_append_drop] at e
 rw [e]
 exact dvb_from _ _
theorem dvb_take_succ (l : List UInt8) (t : Nat) (ht : t < l.length) : dvb (l.take (t + 1)) 0 = dvb (l.take t) 0 * 10 + (l[t].toNat - 48):=by
 rw [List.take_succ_eq_append_getElem ht,dvb_append]
set_option maxHeartbeats 3000000 in
set_option maxRecDepth 100000 in
theorem read_ok (s : ByteArray) (h : okB s.data.toList = true) (hs : s.size ≤ maxLen) (w : World) : Calls Tryz.prog 94 #[.string s] w fun e w' => e = .returned (.tuple #[.agg #[.int .u64 (wd (rdN s.data.toList) 1),.int .u64 (wd (rdN s.data.toList) 0)],.int .i64 (rdE s.data.toList)]) ∧ Below w.heap.size w w':=by
 unfold maxLen at hs
 have hl : s.data.toList.length = s.size:=by simp
 have hne:=okB_ne h
 have hn : ¬ (1 < s.data.toList.length ∧ (s.data.toList.headD 0).toNat = 48):=by
  rintro ⟨h1,h2⟩
  rcases okB_lead h with h3 | h3
  ·omega
  ·exact h3 h2
 have hdig : ∀ j (hj : j < s.size),48 ≤ s[j].toNat ∧ s[j].toNat ≤ 57:=fun j hj => okB_dig h (j:=j) (by omega)
 have HD:=Lib.hid hdig
 skip
 have z0 : 0 < s.size:=by have:=List.length_pos_iff.2 hne;omega
 have e1 : ¬ s.toList = []:=by rw [ByteArray.toList_eq];exact hne
 have e2 : s.toList.isEmpty = false:=by simpa using e1
 have hcase : ¬ (1 : Int) < (s.size : Int) ∨ ((1 : Int) < (s.size : Int) ∧ ((s[0].toNat : Int) == 48) = false):=by
  by_cases hb : 1 < s.size
  ·right
   refine ⟨by omega, ?_⟩
   rw [head_data s z0,hl] at hn
   simp
   intro e
   exact hn ⟨hb,by omega⟩
  ·left;omega
 have HL:=Lib.hid hl
 clear h hn hne hl hdig
 rcases hcase with hb | ⟨hb,e5⟩
 ·go_enter Tryz.func94,Tryz.ntmps94
  go_wp2_with fail
  go_loopg [24] s.size (fun k i wr => ∃ t : Nat,k + t = s.size ∧ i = .int .i64 t ∧ Bk wr w.heap.size 25 [.int .u64 0,.int .u64 0] ∧ Below w.heap.size w wr)
  case atStart => exact ⟨0,by omega,rfl,by exact bkk,by exact bel⟩
  case round =>
   obtain ⟨t,hk,rfl,b0,hbel⟩:=hrel
   have HK:=Lib.hid hk
   have c0:=b0.cell 0 rfl
   have c1:=b0.cell 1 rfl
   have f0:=b0.frozen 0
   have f1:=b0.frozen 1
   have hwl:=b0.lt
   have B0:=Lib.hid b0
   have ht : t ≤ s.size:=by omega
   clear hk b0
   by_cases hts : t < s.size
   ·obtain ⟨p1,p2⟩:=HD.out t hts
    have d1 : (48 : Int) ≤ (s[t].toNat : Int):=by omega
    have d2 : (s[t].toNat : Int) ≤ 57:=by omega
    clear p1 p2
    go_wp2_with fail
    go_roundg (gk - 1)
    case measure => have:=HK.out;omega
    case rel => exact ⟨t + 1,by have:=HK.out;omega,by go_num,B0.out,hbel⟩
   ·obtain rfl : t = s.size:=by omega
    go_wp2_with fail
    obtain ⟨B5,hB5⟩ : ∃ B,B = wr.heap.size:=⟨_,rfl⟩
    rw [← hB5] at hwl ⊢
    have b0:=B0.out
    have b5 : Bk (wr.alloc (.cells #[.int .u64 0,.int .u64 0] 25)) B5 25 [.int .u64 0,.int .u64 0]:=Bk.new_ hB5
    have b2 : Bk (wr.alloc (.cells #[.int .u64 0,.int .u64 0] 25)) w.heap.size 25 [.int .u64 0,.int .u64 0]:=b0.alloc _
    have bb : Below w.heap.size w (wr.alloc (.cells #[.int .u64 0,.int .u64 0] 25)):=hbel.alloc (by omega) _
    generalize wr.alloc (.cells #[.int .u64 0,.int .u64 0] 25) = wo at *
    clear b0 B0 hbel c0 c1 f0 f1 hB5
    go_loopg [41] s.size (fun k i wr => ∃ t V : Nat,k + t = s.size ∧ i = .int .i64 t ∧ V = dvb (s.data.toList.take t) 0 ∧ Far (V < 2 ^ 128) ∧ Bk wr B5 25 [.int .u64 (wd V 1),.int .u64 (wd V 0)] ∧ Bk wr w.heap.size 25 [.int .u64 0,.int .u64 0] ∧ Below w.heap.size w wr)
    case atStart =>
     refine ⟨0,0,by omega,rfl,rfl,Far.mk (by decide), ?_,b2,bb⟩
     rw [wd_zero,wd_zero];exact b5
    case round =>
     obtain ⟨t,V,hk,rfl,hV,hVs,b5,b2,hbel⟩:=hrel
     have HK:=Lib.hid hk
     have HV:=Lib.hid hV
     have c50:=b5.cell 0 rfl
     have c51:=b5.cell 1 rfl
     have f50:=b5.frozen 0
     have f51:=b5.frozen 1
     have c20:=b2.cell 0 rfl
     have c21:=b2.cell 1 rfl
     have f20:=b2.frozen 0
     have f21:=b2.frozen 1
     have l5:=b5.lt
     have l2:=b2.lt
     have B5b:=Lib.hid b5
     have B2b:=Lib.hid b2
     have ht : t ≤ s.size:=by omega
     clear hk hV b5 b2
     by_cases hts : t < s.size
     ·obtain ⟨p1,p2⟩:=HD.out t hts
      have d1 : (48 : Int) ≤ (s[t].toNat : Int):=by omega
      have d2 : (s[t].toNat : Int) ≤ 57:=by omega
      have hml : t < s.data.toList.length:=by rw [HL.out];exact hts
      have hsucc : dvb (s.data.toList.take (t + 1)) 0 = V * 10 + (s[t].toNat - 48):=by rw [HV.out];exact dvb_take_succ s.data.toList t hml
      have HS:=Lib.hid hsucc
      have HT:=Lib.hid (dvb_take_le s.data.toList (t + 1))
      have HM:=Lib.hid (fun W => mul_ten V hVs.out W)
      have hX256 : V * 10 < 2 ^ 256:=by have:=hVs.out;omega
      have HN:=Lib.hid (fun W => narrow_any (V * 10) hX256 W)
      clear p1 p2 hsucc hX256
      by_cases hov : V * 10 < 2 ^ 128
      ·have HA:=Lib.hid (fun W => add_dig (V * 10) hov ((s[t].toNat : Int) - 48) (by omega) (by omega) W)
       rw [fit_id hov,over_id hov] at HN
       have hdn : ((s[t].toNat : Int) - 48).toNat = s[t].toNat - 48:=by omega
       rw [hdn,← HS.out] at HA
       have hw : IntKind.u64.wrap (IntKind.u8.wrap ((s[t].toNat : Int) - 48)) = (s[t].toNat : Int) - 48:=by rw [IntKind.wrap_u64,IntKind.wrap_u8];omega
       rw [← hw] at HA
       clear hw
       obtain ⟨X,hX⟩ : ∃ X,X = V * 10:=⟨_,rfl⟩
       rw [← hX] at HM HN HA
       clear hov hdn hX
       by_cases hov2 : dvb (s.data.toList.take (t + 1)) 0 < 2 ^ 128
       ·rw [fit_id hov2,over_id hov2] at HA
        obtain ⟨V',hV'⟩ : ∃ V',V' = dvb (s.data.toList.take (t + 1)) 0:=⟨_,rfl⟩
        rw [← hV'] at HA hov2
        have HV':=Lib.hid hV'
        have HO:=Far.mk hov2
        clear hov2 hV'
        go_wp2_with (first | ((go_at_call 144;with_reducible refine (HM.out _).mono ?_);rintro _ w1 ⟨rfl,hb1⟩;have hb1s:=hb1.size;(try simp only [wsA,wsS,wsD,wsN] at hb1s);obtain ⟨hb1c,hb1f⟩:=bcell hb1;(try have : w.heap.size < w1.heap.size:=by omega);(try have : w.heap.size + 1 < w1.heap.size:=by omega);(try have : w.heap.size + 1 + 1 < w1.heap.size:=by omega);(try have : w.heap.size + 1 + 1 + 1 < w1.heap.size:=by omega);(try have : B5 < w1.heap.size:=by omega);(try have : wr.heap.size < w1.heap.size:=by omega);(try have : wr.heap.size + 1 < w1.heap.size:=by omega);(try have : wr.heap.size + 1 + 1 < w1.heap.size:=by omega);(try have : wr.heap.size + 1 + 1 + 1 < w1.heap.size:=by omega)) | ((go_at_call 143;with_reducible refine (HN.out _).mono ?_);rintro _ w2 ⟨rfl,hb2⟩;have hb2s:=hb2.size;(try simp only [wsA,wsS,wsD,wsN] at hb2s);obtain ⟨hb2c,hb2f⟩:=bcell hb2;(try have : w.heap.size < w2.heap.size:=by omega);(try have : w.heap.size + 1 < w2.heap.size:=by omega);(try have : w.heap.size + 1 + 1 < w2.heap.size:=by omega);(try have : w.heap.size + 1 + 1 + 1 < w2.heap.size:=by omega);(try have : B5 < w2.heap.size:=by omega);(try have : wr.heap.size < w2.heap.size:=by omega);(try have : wr.heap.size + 1 < w2.heap.size:=by omega);(try have : wr.heap.size + 1 + 1 < w2.heap.size:=by omega);(try have : wr.heap.size + 1 + 1 + 1 < w2.heap.size:=by omega);(try have : w1.heap.size < w2.heap.size:=by omega);(try have : w1.heap.size + 1 < w2.heap.size:=by omega);(try have : w1.heap.size + 1 + 1 < w2.heap.size:=by omega);(try have : w1.heap.size + 1 + 1 + 1 < w2.heap.size:=by omega)))
        go_region_held3 (fun w' => (w'.cell? ⟨w2.heap.size,0,none⟩ = some (.int .u64 (wd X 1)) ∧ w'.cell? ⟨w2.heap.size,1,none⟩ = some (.int .u64 (wd X 0)))) (first | (go_keep;done) | (simp [go_sem];done) | ((try dsimp only);(repeat' apply And.intro) <;> (first | (with_reducible assumption) | ((rw [World.cell?_alloc_lt _ _ _ (by show _ < _;omega)]);go_split_ands;(first | with_reducible assumption | (refine (World.cell?_alloc_lt _ _ _ (by show _ < _;omega)).symm.trans ?_;with_reducible assumption))) | ((rw [World.cell?_setCell_other _ _ _ _ (by intro e;injection e;omega)]);with_reducible assumption) | (go_keep;done) | (simp [go_sem];done) | (simp (disch:=go_size) [*,World.cell?_alloc_some,World.cell?_setCell_far];done)))) (first | (go_at_call 145;(with_reducible refine (HA.out _).mono ?_);rintro _ w3 ⟨rfl,hb3⟩;have hb3s:=hb3.size;(try simp only [wsA,wsS,wsD,wsN] at hb3s);obtain ⟨hb3c,hb3f⟩:=bcell hb3;(try have : w.heap.size < w3.heap.size:=by omega);(try have : w.heap.size + 1 < w3.heap.size:=by omega);(try have : w.heap.size + 1 + 1 < w3.heap.size:=by omega);(try have : w.heap.size + 1 + 1 + 1 < w3.heap.size:=by omega);(try have : B5 < w3.heap.size:=by omega);(try have : w2.heap.size < w3.heap.size:=by omega);(try have : w2.heap.size + 1 < w3.heap.size:=by omega);(try have : w2.heap.size + 1 + 1 < w3.heap.size:=by omega);(try have : w2.heap.size + 1 + 1 + 1 < w3.heap.size:=by omega);(try have : wr.heap.size < w3.heap.size:=by omega);(try have : wr.heap.size + 1 < w3.heap.size:=by omega);(try have : wr.heap.size + 1 + 1 < w3.heap.size:=by omega);(try have : wr.heap.size + 1 + 1 + 1 < w3.heap.size:=by omega)))
        all_goals
         go_wp2_with fail
         go_roundg (gk - 1)
         case measure => have:=HK.out;omega
         case rel =>
          have b5:=B5b.out
          have b2:=B2b.out
          refine ⟨t + 1,V',by have:=HK.out;omega,by go_num,HV'.out,HO, ?_,by exact bkk,by exact bel⟩
          refine ((?_ : Bk w3 _ _ [.int .u64 (wd V 1),.int .u64 (wd V 0)]).set_ 0 _).set_ 1 _
          exact bkk
       ·rw [fit_no hov2,over_no hov2,wd_zero,wd_zero] at HA
        obtain ⟨q1,q2⟩:=rd_over (l:=s.data.toList) (by have:=HT.out;omega)
        have Q1:=Lib.hid q1
        have Q2:=Lib.hid q2
        clear hov2 q1 q2
        go_wp2_with (first | ((go_at_call 144;with_reducible refine (HM.out _).mono ?_);rintro _ w1 ⟨rfl,hb1⟩;have hb1s:=hb1.size;(try simp only [wsA,wsS,wsD,wsN] at hb1s);obtain ⟨hb1c,hb1f⟩:=bcell hb1;(try have : w.heap.size < w1.heap.size:=by omega);(try have : w.heap.size + 1 < w1.heap.size:=by omega);(try have : w.heap.size + 1 + 1 < w1.heap.size:=by omega);(try have : w.heap.size + 1 + 1 + 1 < w1.heap.size:=by omega);(try have : B5 < w1.heap.size:=by omega);(try have : wr.heap.size < w1.heap.size:=by omega);(try have : wr.heap.size + 1 < w1.heap.size:=by omega);(try have : wr.heap.size + 1 + 1 < w1.heap.size:=by omega);(try have : wr.heap.size + 1 + 1 + 1 < w1.heap.size:=by omega)) | ((go_at_call 143;with_reducible refine (HN.out _).mono ?_);rintro _ w2 ⟨rfl,hb2⟩;have hb2s:=hb2.size;(try simp only [wsA,wsS,wsD,wsN] at hb2s);obtain ⟨hb2c,hb2f⟩:=bcell hb2;(try have : w.heap.size < w2.heap.size:=by omega);(try have : w.heap.size + 1 < w2.heap.size:=by omega);(try have : w.heap.size + 1 + 1 < w2.heap.size:=by omega);(try have : w.heap.size + 1 + 1 + 1 < w2.heap.size:=by omega);(try have : B5 < w2.heap.size:=by omega);(try have : wr.heap.size < w2.heap.size:=by omega);(try have : wr.heap.size + 1 < w2.heap.size:=by omega);(try have : wr.heap.size + 1 + 1 < w2.heap.size:=by omega);(try have : wr.heap.size + 1 + 1 + 1 < w2.heap.size:=by omega);(try have : w1.heap.size < w2.heap.size:=by omega);(try have : w1.heap.size + 1 < w2.heap.size:=by omega);(try have : w1.heap.size + 1 + 1 < w2.heap.size:=by omega);(try have : w1.heap.size + 1 + 1 + 1 < w2.heap.size:=by omega)))
        go_region_held3 (fun w' => (w'.cell? ⟨w2.heap.size,0,none⟩ = some (.int .u64 (wd X 1)) ∧ w'.cell? ⟨w2.heap.size,1,none⟩ = some (.int .u64 (wd X 0)))) (first | (go_keep;done) | (simp [go_sem];done) | ((try dsimp only);(repeat' apply And.intro) <;> (first | (with_reducible assumption) | ((rw [World.cell?_alloc_lt _ _ _ (by show _ < _;omega)]);go_split_ands;(first | with_reducible assumption | (refine (World.cell?_alloc_lt _ _ _ (by show _ < _;omega)).symm.trans ?_;with_reducible assumption))) | ((rw [World.cell?_setCell_other _ _ _ _ (by intro e;injection e;omega)]);with_reducible assumption) | (go_keep;done) | (simp [go_sem];done) | (simp (disch:=go_size) [*,World.cell?_alloc_some,World.cell?_setCell_far];done)))) (first | (go_at_call 145;(with_reducible refine (HA.out _).mono ?_);rintro _ w3 ⟨rfl,hb3⟩;have hb3s:=hb3.size;(try simp only [wsA,wsS,wsD,wsN] at hb3s);obtain ⟨hb3c,hb3f⟩:=bcell hb3;(try have : w.heap.size < w3.heap.size:=by omega);(try have : w.heap.size + 1 < w3.heap.size:=by omega);(try have : w.heap.size + 1 + 1 < w3.heap.size:=by omega);(try have : w.heap.size + 1 + 1 + 1 < w3.heap.size:=by omega);(try have : B5 < w3.heap.size:=by omega);(try have : w2.heap.size < w3.heap.size:=by omega);(try have : w2.heap.size + 1 < w3.heap.size:=by omega);(try have : w2.heap.size + 1 + 1 < w3.heap.size:=by omega);(try have : w2.heap.size + 1 + 1 + 1 < w3.heap.size:=by omega);(try have : wr.heap.size < w3.heap.size:=by omega);(try have : wr.heap.size + 1 < w3.heap.size:=by omega);(try have : wr.heap.size + 1 + 1 < w3.heap.size:=by omega);(try have : wr.heap.size + 1 + 1 + 1 < w3.heap.size:=by omega)))
        all_goals
         have b5:=B5b.out
         have b2:=B2b.out
         have k5 : Bk w3 B5 25 [.int .u64 (wd V 1),.int .u64 (wd V 0)]:=by exact bkk
         have k2 : Bk w3 w.heap.size 25 [.int .u64 0,.int .u64 0]:=by exact bkk
         have c50:=k5.cell 0 rfl
         have c51:=k5.cell 1 rfl
         have f50:=k5.frozen 0
         have f51:=k5.frozen 1
         have c20:=k2.cell 0 rfl
         have c21:=k2.cell 1 rfl
         have f20:=k2.frozen 0
         have f21:=k2.frozen 1
         clear k5 k2 b5 b2 hb1c hb2c hb3c hb1f hb2f hb3f
         go_wp2_with fail
         refine bodyPost_ret (by simp [results,Tryz.results94,go_sem, *];try rfl) rfl ?_
         exact ⟨by rw [Q1.out,Q2.out,wd_zero,wd_zero],by exact bel⟩
      ·rw [fit_no hov,over_no hov,wd_zero,wd_zero] at HN
       obtain ⟨q1,q2⟩:=rd_over (l:=s.data.toList) (by have h1:=HT.out;have h2:=HS.out;omega)
       have Q1:=Lib.hid q1
       have Q2:=Lib.hid q2
       obtain ⟨X,hX⟩ : ∃ X,X = V * 10:=⟨_,rfl⟩
       rw [← hX] at HM HN
       clear hov q1 q2 hX
       go_wp2_with (first | ((go_at_call 144;with_reducible refine (HM.out _).mono ?_);rintro _ w1 ⟨rfl,hb1⟩;have hb1s:=hb1.size;(try simp only [wsA,wsS,wsD,wsN] at hb1s);obtain ⟨hb1c,hb1f⟩:=bcell hb1;(try have : w.heap.size < w1.heap.size:=by omega);(try have : w.heap.size + 1 < w1.heap.size:=by omega);(try have : w.heap.size + 1 + 1 < w1.heap.size:=by omega);(try have : w.heap.size + 1 + 1 + 1 < w1.heap.size:=by omega);(try have : B5 < w1.heap.size:=by omega);(try have : wr.heap.size < w1.heap.size:=by omega);(try have : wr.heap.size + 1 < w1.heap.size:=by omega);(try have : wr.heap.size + 1 + 1 < w1.heap.size:=by omega);(try have : wr.heap.size + 1 + 1 + 1 < w1.heap.size:=by omega)) | ((go_at_call 143;with_reducible refine (HN.out _).mono ?_);rintro _ w2 ⟨rfl,hb2⟩;have hb2s:=hb2.size;(try simp only [wsA,wsS,wsD,wsN] at hb2s);obtain ⟨hb2c,hb2f⟩:=bcell hb2;(try have : w.heap.size < w2.heap.size:=by omega);(try have : w.heap.size + 1 < w2.heap.size:=by omega);(try have : w.heap.size + 1 + 1 < w2.heap.size:=by omega);(try have : w.heap.size + 1 + 1 + 1 < w2.heap.size:=by omega);(try have : B5 < w2.heap.size:=by omega);(try have : wr.heap.size < w2.heap.size:=by omega);(try have : wr.heap.size + 1 < w2.heap.size:=by omega);(try have : wr.heap.size + 1 + 1 < w2.heap.size:=by omega);(try have : wr.heap.size + 1 + 1 + 1 < w2.heap.size:=by omega);(try have : w1.heap.size < w2.heap.size:=by omega);(try have : w1.heap.size + 1 < w2.heap.size:=by omega);(try have : w1.heap.size + 1 + 1 < w2.heap.size:=by omega);(try have : w1.heap.size + 1 + 1 + 1 < w2.heap.size:=by omega)))
       refine bodyPost_ret (by simp [results,Tryz.results94,go_sem, *];try rfl) rfl ?_
       exact ⟨by rw [Q1.out,Q2.out,wd_zero,wd_zero],by exact bel⟩
     ·obtain rfl : t = s.size:=by omega
      have hvl : V = dvb s.data.toList 0:=by
       rw [HV.out,List.take_of_length_le (by rw [HL.out];exact Nat.le_refl _)]
      obtain ⟨q1,q2⟩:=rd_fits (l:=s.data.toList) (by rw [← hvl];exact hVs.out)
      rw [← hvl] at q1
      have Q1:=Lib.hid q1
      have Q2:=Lib.hid q2
      clear q1 q2 hvl
      go_wp2_with fail
      refine bodyPost_ret (by simp [results,Tryz.results94,go_sem, *];try rfl) rfl ?_
      exact ⟨by rw [Q1.out,Q2.out],by exact bel⟩
 ·go_enter Tryz.func94,Tryz.ntmps94
  go_wp2_with fail
  go_loopg [24] s.size (fun k i wr => ∃ t : Nat,k + t = s.size ∧ i = .int .i64 t ∧ Bk wr w.heap.size 25 [.int .u64 0,.int .u64 0] ∧ Below w.heap.size w wr)
  case atStart => exact ⟨0,by omega,rfl,by exact bkk,by exact bel⟩
  case round =>
   obtain ⟨t,hk,rfl,b0,hbel⟩:=hrel
   have HK:=Lib.hid hk
   have c0:=b0.cell 0 rfl
   have c1:=b0.cell 1 rfl
   have f0:=b0.frozen 0
   have f1:=b0.frozen 1
   have hwl:=b0.lt
   have B0:=Lib.hid b0
   have ht : t ≤ s.size:=by omega
   clear hk b0
   by_cases hts : t < s.size
   ·obtain ⟨p1,p2⟩:=HD.out t hts
    have d1 : (48 : Int) ≤ (s[t].toNat : Int):=by omega
    have d2 : (s[t].toNat : Int) ≤ 57:=by omega
    clear p1 p2
    go_wp2_with fail
    go_roundg (gk - 1)
    case measure => have:=HK.out;omega
    case rel => exact ⟨t + 1,by have:=HK.out;omega,by go_num,B0.out,hbel⟩
   ·obtain rfl : t = s.size:=by omega
    go_wp2_with fail
    obtain ⟨B5,hB5⟩ : ∃ B,B = wr.heap.size:=⟨_,rfl⟩
    rw [← hB5] at hwl ⊢
    have b0:=B0.out
    have b5 : Bk (wr.alloc (.cells #[.int .u64 0,.int .u64 0] 25)) B5 25 [.int .u64 0,.int .u64 0]:=Bk.new_ hB5
    have b2 : Bk (wr.alloc (.cells #[.int .u64 0,.int .u64 0] 25)) w.heap.size 25 [.int .u64 0,.int .u64 0]:=b0.alloc _
    have bb : Below w.heap.size w (wr.alloc (.cells #[.int .u64 0,.int .u64 0] 25)):=hbel.alloc (by omega) _
    generalize wr.alloc (.cells #[.int .u64 0,.int .u64 0] 25) = wo at *
    clear b0 B0 hbel c0 c1 f0 f1 hB5
    go_loopg [41] s.size (fun k i wr => ∃ t V : Nat,k + t = s.size ∧ i = .int .i64 t ∧ V = dvb (s.data.toList.take t) 0 ∧ Far (V < 2 ^ 128) ∧ Bk wr B5 25 [.int .u64 (wd V 1),.int .u64 (wd V 0)] ∧ Bk wr w.heap.size 25 [.int .u64 0,.int .u64 0] ∧ Below w.heap.size w wr)
    case atStart =>
     refine ⟨0,0,by omega,rfl,rfl,Far.mk (by decide), ?_,b2,bb⟩
     rw [wd_zero,wd_zero];exact b5
    case round =>
     obtain ⟨t,V,hk,rfl,hV,hVs,b5,b2,hbel⟩:=hrel
     have HK:=Lib.hid hk
     have HV:=Lib.hid hV
     have c50:=b5.cell 0 rfl
     have c51:=b5.cell 1 rfl
     have f50:=b5.frozen 0
     have f51:=b5.frozen 1
     have c20:=b2.cell 0 rfl
     have c21:=b2.cell 1 rfl
     have f20:=b2.frozen 0
     have f21:=b2.frozen 1
     have l5:=b5.lt
     have l2:=b2.lt
     have B5b:=Lib.hid b5
     have B2b:=Lib.hid b2
     have ht : t ≤ s.size:=by omega
     clear hk hV b5 b2
     by_cases hts : t < s.size
     ·obtain ⟨p1,p2⟩:=HD.out t hts
      have d1 : (48 : Int) ≤ (s[t].toNat : Int):=by omega
      have d2 : (s[t].toNat : Int) ≤ 57:=by omega
      have hml : t < s.data.toList.length:=by rw [HL.out];exact hts
      have hsucc : dvb (s.data.toList.take (t + 1)) 0 = V * 10 + (s[t].toNat - 48):=by rw [HV.out];exact dvb_take_succ s.data.toList t hml
      have HS:=Lib.hid hsucc
      have HT:=Lib.hid (dvb_take_le s.data.toList (t + 1))
      have HM:=Lib.hid (fun W => mul_ten V hVs.out W)
      have hX256 : V * 10 < 2 ^ 256:=by have:=hVs.out;omega
      have HN:=Lib.hid (fun W => narrow_any (V * 10) hX256 W)
      clear p1 p2 hsucc hX256
      by_cases hov : V * 10 < 2 ^ 128
      ·have HA:=Lib.hid (fun W => add_dig (V * 10) hov ((s[t].toNat : Int) - 48) (by omega) (by omega) W)
       rw [fit_id hov,over_id hov] at HN
       have hdn : ((s[t].toNat : Int) - 48).toNat = s[t].toNat - 48:=by omega
       rw [hdn,← HS.out] at HA
       have hw : IntKind.u64.wrap (IntKind.u8.wrap ((s[t].toNat : Int) - 48)) = (s[t].toNat : Int) - 48:=by rw [IntKind.wrap_u64,IntKind.wrap_u8];omega
       rw [← hw] at HA
       clear hw
       obtain ⟨X,hX⟩ : ∃ X,X = V * 10:=⟨_,rfl⟩
       rw [← hX] at HM HN HA
       clear hov hdn hX
       by_cases hov2 : dvb (s.data.toList.take (t + 1)) 0 < 2 ^ 128
       ·rw [fit_id hov2,over_id hov2] at HA
        obtain ⟨V',hV'⟩ : ∃ V',V' = dvb (s.data.toList.take (t + 1)) 0:=⟨_,rfl⟩
        rw [← hV'] at HA hov2
        have HV':=Lib.hid hV'
        have HO:=Far.mk hov2
        clear hov2 hV'
        go_wp2_with (first | ((go_at_call 144;with_reducible refine (HM.out _).mono ?_);rintro _ w1 ⟨rfl,hb1⟩;have hb1s:=hb1.size;(try simp only [wsA,wsS,wsD,wsN] at hb1s);obtain ⟨hb1c,hb1f⟩:=bcell hb1;(try have : w.heap.size < w1.heap.size:=by omega);(try have : w.heap.size + 1 < w1.heap.size:=by omega);(try have : w.heap.size + 1 + 1 < w1.heap.size:=by omega);(try have : w.heap.size + 1 + 1 + 1 < w1.heap.size:=by omega);(try have : B5 < w1.heap.size:=by omega);(try have : wr.heap.size < w1.heap.size:=by omega);(try have : wr.heap.size + 1 < w1.heap.size:=by omega);(try have : wr.heap.size + 1 + 1 < w1.heap.size:=by omega);(try have : wr.heap.size + 1 + 1 + 1 < w1.heap.size:=by omega)) | ((go_at_call 143;with_reducible refine (HN.out _).mono ?_);rintro _ w2 ⟨rfl,hb2⟩;have hb2s:=hb2.size;(try simp only [wsA,wsS,wsD,wsN] at hb2s);obtain ⟨hb2c,hb2f⟩:=bcell hb2;(try have : w.heap.size < w2.heap.size:=by omega);(try have : w.heap.size + 1 < w2.heap.size:=by omega);(try have : w.heap.size + 1 + 1 < w2.heap.size:=by omega);(try have : w.heap.size + 1 + 1 + 1 < w2.heap.size:=by omega);(try have : B5 < w2.heap.size:=by omega);(try have : wr.heap.size < w2.heap.size:=by omega);(try have : wr.heap.size + 1 < w2.heap.size:=by omega);(try have : wr.heap.size + 1 + 1 < w2.heap.size:=by omega);(try have : wr.heap.size + 1 + 1 + 1 < w2.heap.size:=by omega);(try have : w1.heap.size < w2.heap.size:=by omega);(try have : w1.heap.size + 1 < w2.heap.size:=by omega);(try have : w1.heap.size + 1 + 1 < w2.heap.size:=by omega);(try have : w1.heap.size + 1 + 1 + 1 < w2.heap.size:=by omega)))
        go_region_held3 (fun w' => (w'.cell? ⟨w2.heap.size,0,none⟩ = some (.int .u64 (wd X 1)) ∧ w'.cell? ⟨w2.heap.size,1,none⟩ = some (.int .u64 (wd X 0)))) (first | (go_keep;done) | (simp [go_sem];done) | ((try dsimp only);(repeat' apply And.intro) <;> (first | (with_reducible assumption) | ((rw [World.cell?_alloc_lt _ _ _ (by show _ < _;omega)]);go_split_ands;(first | with_reducible assumption | (refine (World.cell?_alloc_lt _ _ _ (by show _ < _;omega)).symm.trans ?_;with_reducible assumption))) | ((rw [World.cell?_setCell_other _ _ _ _ (by intro e;injection e;omega)]);with_reducible assumption) | (go_keep;done) | (simp [go_sem];done) | (simp (disch:=go_size) [*,World.cell?_alloc_some,World.cell?_setCell_far];done)))) (first | (go_at_call 145;(with_reducible refine (HA.out _).mono ?_);rintro _ w3 ⟨rfl,hb3⟩;have hb3s:=hb3.size;(try simp only [wsA,wsS,wsD,wsN] at hb3s);obtain ⟨hb3c,hb3f⟩:=bcell hb3;(try have : w.heap.size < w3.heap.size:=by omega);(try have : w.heap.size + 1 < w3.heap.size:=by omega);(try have : w.heap.size + 1 + 1 < w3.heap.size:=by omega);(try have : w.heap.size + 1 + 1 + 1 < w3.heap.size:=by omega);(try have : B5 < w3.heap.size:=by omega);(try have : w2.heap.size < w3.heap.size:=by omega);(try have : w2.heap.size + 1 < w3.heap.size:=by omega);(try have : w2.heap.size + 1 + 1 < w3.heap.size:=by omega);(try have : w2.heap.size + 1 + 1 + 1 < w3.heap.size:=by omega);(try have : wr.heap.size < w3.heap.size:=by omega);(try have : wr.heap.size + 1 < w3.heap.size:=by omega);(try have : wr.heap.size + 1 + 1 < w3.heap.size:=by omega);(try have : wr.heap.size + 1 + 1 + 1 < w3.heap.size:=by omega)))
        all_goals
         go_wp2_with fail
         go_roundg (gk - 1)
         case measure => have:=HK.out;omega
         case rel =>
          have b5:=B5b.out
          have b2:=B2b.out
          refine ⟨t + 1,V',by have:=HK.out;omega,by go_num,HV'.out,HO, ?_,by exact bkk,by exact bel⟩
          refine ((?_ : Bk w3 _ _ [.int .u64 (wd V 1),.int .u64 (wd V 0)]).set_ 0 _).set_ 1 _
          exact bkk
       ·rw [fit_no hov2,over_no hov2,wd_zero,wd_zero] at HA
        obtain ⟨q1,q2⟩:=rd_over (l:=s.data.toList) (by have:=HT.out;omega)
        have Q1:=Lib.hid q1
        have Q2:=Lib.hid q2
        clear hov2 q1 q2
        go_wp2_with (first | ((go_at_call 144;with_reducible refine (HM.out _).mono ?_);rintro _ w1 ⟨rfl,hb1⟩;have hb1s:=hb1.size;(try simp only [wsA,wsS,wsD,wsN] at hb1s);obtain ⟨hb1c,hb1f⟩:=bcell hb1;(try have : w.heap.size < w1.heap.size:=by omega);(try have : w.heap.size + 1 < w1.heap.size:=by omega);(try have : w.heap.size + 1 + 1 < w1.heap.size:=by omega);(try have : w.heap.size + 1 + 1 + 1 < w1.heap.size:=by omega);(try have : B5 < w1.heap.size:=by omega);(try have : wr.heap.size < w1.heap.size:=by omega);(try have : wr.heap.size + 1 < w1.heap.size:=by omega);(try have : wr.heap.size + 1 + 1 < w1.heap.size:=by omega);(try have : wr.heap.size + 1 + 1 + 1 < w1.heap.size:=by omega)) | ((go_at_call 143;with_reducible refine (HN.out _).mono ?_);rintro _ w2 ⟨rfl,hb2⟩;have hb2s:=hb2.size;(try simp only [wsA,wsS,wsD,wsN] at hb2s);obtain ⟨hb2c,hb2f⟩:=bcell hb2;(try have : w.heap.size < w2.heap.size:=by omega);(try have : w.heap.size + 1 < w2.heap.size:=by omega);(try have : w.heap.size + 1 + 1 < w2.heap.size:=by omega);(try have : w.heap.size + 1 + 1 + 1 < w2.heap.size:=by omega);(try have : B5 < w2.heap.size:=by omega);(try have : wr.heap.size < w2.heap.size:=by omega);(try have : wr.heap.size + 1 < w2.heap.size:=by omega);(try have : wr.heap.size + 1 + 1 < w2.heap.size:=by omega);(try have : wr.heap.size + 1 + 1 + 1 < w2.heap.size:=by omega);(try have : w1.heap.size < w2.heap.size:=by omega);(try have : w1.heap.size + 1 < w2.heap.size:=by omega);(try have : w1.heap.size + 1 + 1 < w2.heap.size:=by omega);(try have : w1.heap.size + 1 + 1 + 1 < w2.heap.size:=by omega)))
        go_region_held3 (fun w' => (w'.cell? ⟨w2.heap.size,0,none⟩ = some (.int .u64 (wd X 1)) ∧ w'.cell? ⟨w2.heap.size,1,none⟩ = some (.int .u64 (wd X 0)))) (first | (go_keep;done) | (simp [go_sem];done) | ((try dsimp only);(repeat' apply And.intro) <;> (first | (with_reducible assumption) | ((rw [World.cell?_alloc_lt _ _ _ (by show _ < _;omega)]);go_split_ands;(first | with_reducible assumption | (refine (World.cell?_alloc_lt _ _ _ (by show _ < _;omega)).symm.trans ?_;with_reducible assumption))) | ((rw [World.cell?_setCell_other _ _ _ _ (by intro e;injection e;omega)]);with_reducible assumption) | (go_keep;done) | (simp [go_sem];done) | (simp (disch:=go_size) [*,World.cell?_alloc_some,World.cell?_setCell_far];done)))) (first | (go_at_call 145;(with_reducible refine (HA.out _).mono ?_);rintro _ w3 ⟨rfl,hb3⟩;have hb3s:=hb3.size;(try simp only [wsA,wsS,wsD,wsN] at hb3s);obtain ⟨hb3c,hb3f⟩:=bcell hb3;(try have : w.heap.size < w3.heap.size:=by omega);(try have : w.heap.size + 1 < w3.heap.size:=by omega);(try have : w.heap.size + 1 + 1 < w3.heap.size:=by omega);(try have : w.heap.size + 1 + 1 + 1 < w3.heap.size:=by omega);(try have : B5 < w3.heap.size:=by omega);(try have : w2.heap.size < w3.heap.size:=by omega);(try have : w2.heap.size + 1 < w3.heap.size:=by omega);(try have : w2.heap.size + 1 + 1 < w3.heap.size:=by omega);(try have : w2.heap.size + 1 + 1 + 1 < w3.heap.size:=by omega);(try have : wr.heap.size < w3.heap.size:=by omega);(try have : wr.heap.size + 1 < w3.heap.size:=by omega);(try have : wr.heap.size + 1 + 1 < w3.heap.size:=by omega);(try have : wr.heap.size + 1 + 1 + 1 < w3.heap.size:=by omega)))
        all_goals
         have b5:=B5b.out
         have b2:=B2b.out
         have k5 : Bk w3 B5 25 [.int .u64 (wd V 1),.int .u64 (wd V 0)]:=by exact bkk
         have k2 : Bk w3 w.heap.size 25 [.int .u64 0,.int .u64 0]:=by exact bkk
         have c50:=k5.cell 0 rfl
         have c51:=k5.cell 1 rfl
         have f50:=k5.frozen 0
         have f51:=k5.frozen 1
         have c20:=k2.cell 0 rfl
         have c21:=k2.cell 1 rfl
         have f20:=k2.frozen 0
         have f21:=k2.frozen 1
         clear k5 k2 b5 b2 hb1c hb2c hb3c hb1f hb2f hb3f
         go_wp2_with fail
         refine bodyPost_ret (by simp [results,Tryz.results94,go_sem, *];try rfl) rfl ?_
         exact ⟨by rw [Q1.out,Q2.out,wd_zero,wd_zero],by exact bel⟩
      ·rw [fit_no hov,over_no hov,wd_zero,wd_zero] at HN
       obtain ⟨q1,q2⟩:=rd_over (l:=s.data.toList) (by have h1:=HT.out;have h2:=HS.out;omega)
       have Q1:=Lib.hid q1
       have Q2:=Lib.hid q2
       obtain ⟨X,hX⟩ : ∃ X,X = V * 10:=⟨_,rfl⟩
       rw [← hX] at HM HN
       clear hov q1 q2 hX
       go_wp2_with (first | ((go_at_call 144;with_reducible refine (HM.out _).mono ?_);rintro _ w1 ⟨rfl,hb1⟩;have hb1s:=hb1.size;(try simp only [wsA,wsS,wsD,wsN] at hb1s);obtain ⟨hb1c,hb1f⟩:=bcell hb1;(try have : w.heap.size < w1.heap.size:=by omega);(try have : w.heap.size + 1 < w1.heap.size:=by omega);(try have : w.heap.size + 1 + 1 < w1.heap.size:=by omega);(try have : w.heap.size + 1 + 1 + 1 < w1.heap.size:=by omega);(try have : B5 < w1.heap.size:=by omega);(try have : wr.heap.size < w1.heap.size:=by omega);(try have : wr.heap.size + 1 < w1.heap.size:=by omega);(try have : wr.heap.size + 1 + 1 < w1.heap.size:=by omega);(try have : wr.heap.size + 1 + 1 + 1 < w1.heap.size:=by omega)) | ((go_at_call 143;with_reducible refine (HN.out _).mono ?_);rintro _ w2 ⟨rfl,hb2⟩;have hb2s:=hb2.size;(try simp only [wsA,wsS,wsD,wsN] at hb2s);obtain ⟨hb2c,hb2f⟩:=bcell hb2;(try have : w.heap.size < w2.heap.size:=by omega);(try have : w.heap.size + 1 < w2.heap.size:=by omega);(try have : w.heap.size + 1 + 1 < w2.heap.size:=by omega);(try have : w.heap.size + 1 + 1 + 1 < w2.heap.size:=by omega);(try have : B5 < w2.heap.size:=by omega);(try have : wr.heap.size < w2.heap.size:=by omega);(try have : wr.heap.size + 1 < w2.heap.size:=by omega);(try have : wr.heap.size + 1 + 1 < w2.heap.size:=by omega);(try have : wr.heap.size + 1 + 1 + 1 < w2.heap.size:=by omega);(try have : w1.heap.size < w2.heap.size:=by omega);(try have : w1.heap.size + 1 < w2.heap.size:=by omega);(try have : w1.heap.size + 1 + 1 < w2.heap.size:=by omega);(try have : w1.heap.size + 1 + 1 + 1 < w2.heap.size:=by omega)))
       refine bodyPost_ret (by simp [results,Tryz.results94,go_sem, *];try rfl) rfl ?_
       exact ⟨by rw [Q1.out,Q2.out,wd_zero,wd_zero],by exact bel⟩
     ·obtain rfl : t = s.size:=by omega
      have hvl : V = dvb s.data.toList 0:=by
       rw [HV.out,List.take_of_length_le (by rw [HL.out];exact Nat.le_refl _)]
      obtain ⟨q1,q2⟩:=rd_fits (l:=s.data.toList) (by rw [← hvl];exact hVs.out)
      rw [← hvl] at q1
      have Q1:=Lib.hid q1
      have Q2:=Lib.hid q2
      clear q1 q2 hvl
      go_wp2_with fail
      refine bodyPost_ret (by simp [results,Tryz.results94,go_sem, *];try rfl) rfl ?_
      exact ⟨by rw [Q1.out,Q2.out],by exact bel⟩
end Go.Proofs.YtbnadlpkbbdgjaaGreatDoor

