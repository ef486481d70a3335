/- The contracts of the functions that the laws reach, part 16: what each returns and what becomes of memory. -/
import Derived.Deep.DeepCutAuto
import Derived.Test.YtbnadlpkbbdgjaaGreatDoorM15
set_option linter.unusedSimpArgs false
set_option linter.unusedVariables false


namespace Go.Proofs.YtbnadlpkbbdgjaaGreatDoor
open Go.RowKit

theorem cat_mk (a b : List UInt8) : (⟨a.toArray⟩ : ByteArray) ++ ⟨b.toArray⟩ = ⟨(a ++ b).toArray⟩:=by
 apply ByteArray.ext
 rw [ByteArray.data_append]
 simp
theorem w0_0 : wd 0 0 = 0:=wd_zero 0
theorem w0_1 : wd 0 1 = 0:=wd_zero 1
set_option maxRecDepth 100000 in
set_option maxHeartbeats 4000000 in
theorem parse_any (l : List UInt8) (hl : l.length ≤ 9223372036854775807) (w : World) : Calls Tryz.prog 65 #[.string ⟨l.toArray⟩] w (DPost (parD l) w):=by
 obtain ⟨R,hR⟩ : ∃ R,R = parD l:=⟨_,rfl⟩
 have HR : Hid (R = parS (minus1 l) (ahead (past l)) (behind (past l)) (hasDot (past l))):=Lib.hid hR
 rw [← hR]
 clear hR
 have HP:=Lib.hid (fun W => pre_any l W)
 have hm:=past_len l
 obtain ⟨m,hm'⟩ : ∃ m,m = past l:=⟨_,rfl⟩
 rw [← hm'] at HP HR hm
 have hml : m.length ≤ 9223372036854775807:=Nat.le_trans hm hl
 have HC:=Lib.hid (fun W => lcut_any m hml W)
 have hab:=both_len m
 have hsm : (ahead m).length + (behind m).length ≤ 9223372036854775807:=Nat.le_trans hab hml
 obtain ⟨neg,hneg⟩ : ∃ neg,neg = minus1 l:=⟨_,rfl⟩
 obtain ⟨a,ha⟩ : ∃ a,a = ahead m:=⟨_,rfl⟩
 obtain ⟨b,hb⟩ : ∃ b,b = behind m:=⟨_,rfl⟩
 obtain ⟨dt,hdt⟩ : ∃ dt,dt = hasDot m:=⟨_,rfl⟩
 rw [← hneg] at HP HR
 rw [← ha,← hb,← hdt] at HC
 rw [← ha,← hb,← hdt] at HR
 rw [← ha,← hb] at hab hsm
 have ham : a.length ≤ 9223372036854775807:=by omega
 have hbm : b.length ≤ 9223372036854775807:=by omega
 have HNA:=Lib.hid (fun W => number_any a ham W)
 have HNB:=Lib.hid (fun W => number_any b hbm W)
 have HTR:=Lib.hid (fun W => tr_any b hbm W)
 have HB0 : Hid (dt = false → b = []):=Lib.hid (by
  intro h
  rw [hb]
  rcases dot_at m with ⟨_,_,q,_⟩ | ⟨_,_,_,_,_,q⟩
  ·exact q
  ·rw [← hdt,h] at q;exact Bool.noConfusion q)
 clear hneg ha hb hdt hm' hm hml
 unfold DPost
 cases hda : isDs a with
 | false =>
  rw [hda] at HNA
  have hr : R = (false,0,0,5):=by rw [HR.out,parS_no (fun h => by rw [hda] at h;exact Bool.noConfusion h.1)]
  subst hr
  dsimp only
  rw [w0_0,w0_1]
  clear HR hda
  go_enter Tryz.func65,Tryz.ntmps65
  go_wp2_with (first | ((go_at_call 89;with_reducible refine (HP.out _).mono ?_);rintro _ w1 ⟨rfl,hb1⟩;have hb1s:=hb1.size;(try simp only [wsA,wsS,wsD,wsN] at hb1s);obtain ⟨hb1c,hb1f⟩:=bcell hb1;(try have : w.heap.size < w1.heap.size:=by omega);(try have : w.heap.size + 1 < w1.heap.size:=by omega);(try have : w.heap.size + 1 + 1 < w1.heap.size:=by omega);(try have : w.heap.size + 1 + 1 + 1 < w1.heap.size:=by omega)) | ((go_at_call 134;with_reducible refine (HC.out _).mono ?_);rintro _ w2 ⟨rfl,hb2⟩;have hb2s:=hb2.size;(try simp only [wsA,wsS,wsD,wsN] at hb2s);obtain ⟨hb2c,hb2f⟩:=bcell hb2;(try have : w.heap.size < w2.heap.size:=by omega);(try have : w.heap.size + 1 < w2.heap.size:=by omega);(try have : w.heap.size + 1 + 1 < w2.heap.size:=by omega);(try have : w.heap.size + 1 + 1 + 1 < w2.heap.size:=by omega);(try have : w1.heap.size < w2.heap.size:=by omega);(try have : w1.heap.size + 1 < w2.heap.size:=by omega);(try have : w1.heap.size + 1 + 1 < w2.heap.size:=by omega);(try have : w1.heap.size + 1 + 1 + 1 < w2.heap.size:=by omega)) | (go_at_call 90;go_in) | ((go_at_call 91;with_reducible refine (HNA.out _).mono ?_);rintro _ w3 ⟨rfl,hb3⟩;have hb3s:=hb3.size;(try simp only [wsA,wsS,wsD,wsN] at hb3s);obtain ⟨hb3c,hb3f⟩:=bcell hb3;(try have : w.heap.size < w3.heap.size:=by omega);(try have : w.heap.size + 1 < w3.heap.size:=by omega);(try have : w.heap.size + 1 + 1 < w3.heap.size:=by omega);(try have : w.heap.size + 1 + 1 + 1 < w3.heap.size:=by omega);(try have : w1.heap.size < w3.heap.size:=by omega);(try have : w1.heap.size + 1 < w3.heap.size:=by omega);(try have : w1.heap.size + 1 + 1 < w3.heap.size:=by omega);(try have : w1.heap.size + 1 + 1 + 1 < w3.heap.size:=by omega);(try have : w2.heap.size < w3.heap.size:=by omega);(try have : w2.heap.size + 1 < w3.heap.size:=by omega);(try have : w2.heap.size + 1 + 1 < w3.heap.size:=by omega);(try have : w2.heap.size + 1 + 1 + 1 < w3.heap.size:=by omega)))
  refine bodyPost_ret (by simp [results,Tryz.results65,go_sem, *];try rfl) rfl ?_
  exact ⟨rfl,by exact bel⟩
 | true =>
  rw [hda] at HNA
  have hne : a ≠ []:=by rintro rfl;exact Bool.noConfusion hda
  have h0 : 0 < a.length:=List.length_pos_iff.2 hne
  have hz0 : 0 < (⟨a.toArray⟩ : ByteArray).size:=by rw [Lib.size_mk];exact h0
  have hhd : ((⟨a.toArray⟩ : ByteArray)[0]'hz0).toNat = (a.headD 0).toNat:=by
   cases a with
   | nil => exact absurd rfl hne
   | cons c r => rfl
  by_cases h1 : 1 < a.length ∧ (a.headD 0).toNat = 48
  ·have h1' : (1 : Int) < (a.length : Int):=by omega
   have e5 : ((((⟨a.toArray⟩ : ByteArray)[0]'hz0).toNat : Int) == 48) = true:=by rw [hhd,h1.2];rfl
   clear hhd hne
   have hr : R = (false,0,0,5):=by rw [HR.out,parS_no (fun h => h.2.1 h1)]
   subst hr
   dsimp only
   rw [w0_0,w0_1]
   clear HR hda h1
   go_enter Tryz.func65,Tryz.ntmps65
   go_wp2_with (first | ((go_at_call 89;with_reducible refine (HP.out _).mono ?_);rintro _ w1 ⟨rfl,hb1⟩;have hb1s:=hb1.size;(try simp only [wsA,wsS,wsD,wsN] at hb1s);obtain ⟨hb1c,hb1f⟩:=bcell hb1;(try have : w.heap.size < w1.heap.size:=by omega);(try have : w.heap.size + 1 < w1.heap.size:=by omega);(try have : w.heap.size + 1 + 1 < w1.heap.size:=by omega);(try have : w.heap.size + 1 + 1 + 1 < w1.heap.size:=by omega)) | ((go_at_call 134;with_reducible refine (HC.out _).mono ?_);rintro _ w2 ⟨rfl,hb2⟩;have hb2s:=hb2.size;(try simp only [wsA,wsS,wsD,wsN] at hb2s);obtain ⟨hb2c,hb2f⟩:=bcell hb2;(try have : w.heap.size < w2.heap.size:=by omega);(try have : w.heap.size + 1 < w2.heap.size:=by omega);(try have : w.heap.size + 1 + 1 < w2.heap.size:=by omega);(try have : w.heap.size + 1 + 1 + 1 < w2.heap.size:=by omega);(try have : w1.heap.size < w2.heap.size:=by omega);(try have : w1.heap.size + 1 < w2.heap.size:=by omega);(try have : w1.heap.size + 1 + 1 < w2.heap.size:=by omega);(try have : w1.heap.size + 1 + 1 + 1 < w2.heap.size:=by omega)) | (go_at_call 90;go_in) | ((go_at_call 91;with_reducible refine (HNA.out _).mono ?_);rintro _ w3 ⟨rfl,hb3⟩;have hb3s:=hb3.size;(try simp only [wsA,wsS,wsD,wsN] at hb3s);obtain ⟨hb3c,hb3f⟩:=bcell hb3;(try have : w.heap.size < w3.heap.size:=by omega);(try have : w.heap.size + 1 < w3.heap.size:=by omega);(try have : w.heap.size + 1 + 1 < w3.heap.size:=by omega);(try have : w.heap.size + 1 + 1 + 1 < w3.heap.size:=by omega);(try have : w1.heap.size < w3.heap.size:=by omega);(try have : w1.heap.size + 1 < w3.heap.size:=by omega);(try have : w1.heap.size + 1 + 1 < w3.heap.size:=by omega);(try have : w1.heap.size + 1 + 1 + 1 < w3.heap.size:=by omega);(try have : w2.heap.size < w3.heap.size:=by omega);(try have : w2.heap.size + 1 < w3.heap.size:=by omega);(try have : w2.heap.size + 1 + 1 < w3.heap.size:=by omega);(try have : w2.heap.size + 1 + 1 + 1 < w3.heap.size:=by omega)))
   refine bodyPost_ret (by simp [results,Tryz.results65,go_sem, *];try rfl) rfl ?_
   exact ⟨rfl,by exact bel⟩
  ·have hnz : (a.length : Int) ≤ 1 ∨ ((1 : Int) < (a.length : Int) ∧ ((((⟨a.toArray⟩ : ByteArray)[0]'hz0).toNat : Int) == 48) = false):=by
    by_cases h2 : 1 < a.length
    ·right
     refine ⟨by omega, ?_⟩
     rw [hhd,beq_eq_false_iff_ne]
     intro e
     exact h1 ⟨h2,by omega⟩
    ·left;omega
   by_cases hdb : dt = true ∧ isDs b = false
   ·obtain ⟨rfl,hdb⟩:=hdb
    have hr : R = (false,0,0,5):=by rw [HR.out,parS_no (fun h => by have:=h.2.2 rfl;rw [hdb] at this;exact Bool.noConfusion this)]
    subst hr
    dsimp only
    rw [w0_0,w0_1]
    rw [hdb] at HNB
    clear HR hda hdb h1 hhd hne
    rcases hnz with h2 | ⟨h2,h3⟩
    ·have h2' : ¬ (1 : Int) < (a.length : Int):=by omega
     go_enter Tryz.func65,Tryz.ntmps65
     go_wp2_with (first | ((go_at_call 89;with_reducible refine (HP.out _).mono ?_);rintro _ w1 ⟨rfl,hb1⟩;have hb1s:=hb1.size;(try simp only [wsA,wsS,wsD,wsN] at hb1s);obtain ⟨hb1c,hb1f⟩:=bcell hb1;(try have : w.heap.size < w1.heap.size:=by omega);(try have : w.heap.size + 1 < w1.heap.size:=by omega);(try have : w.heap.size + 1 + 1 < w1.heap.size:=by omega);(try have : w.heap.size + 1 + 1 + 1 < w1.heap.size:=by omega)) | ((go_at_call 134;with_reducible refine (HC.out _).mono ?_);rintro _ w2 ⟨rfl,hb2⟩;have hb2s:=hb2.size;(try simp only [wsA,wsS,wsD,wsN] at hb2s);obtain ⟨hb2c,hb2f⟩:=bcell hb2;(try have : w.heap.size < w2.heap.size:=by omega);(try have : w.heap.size + 1 < w2.heap.size:=by omega);(try have : w.heap.size + 1 + 1 < w2.heap.size:=by omega);(try have : w.heap.size + 1 + 1 + 1 < w2.heap.size:=by omega);(try have : w1.heap.size < w2.heap.size:=by omega);(try have : w1.heap.size + 1 < w2.heap.size:=by omega);(try have : w1.heap.size + 1 + 1 < w2.heap.size:=by omega);(try have : w1.heap.size + 1 + 1 + 1 < w2.heap.size:=by omega)) | (go_at_call 90;go_in) | ((go_at_call 91;with_reducible refine (HNA.out _).mono ?_);rintro _ w3 ⟨rfl,hb3⟩;have hb3s:=hb3.size;(try simp only [wsA,wsS,wsD,wsN] at hb3s);obtain ⟨hb3c,hb3f⟩:=bcell hb3;(try have : w.heap.size < w3.heap.size:=by omega);(try have : w.heap.size + 1 < w3.heap.size:=by omega);(try have : w.heap.size + 1 + 1 < w3.heap.size:=by omega);(try have : w.heap.size + 1 + 1 + 1 < w3.heap.size:=by omega);(try have : w1.heap.size < w3.heap.size:=by omega);(try have : w1.heap.size + 1 < w3.heap.size:=by omega);(try have : w1.heap.size + 1 + 1 < w3.heap.size:=by omega);(try have : w1.heap.size + 1 + 1 + 1 < w3.heap.size:=by omega);(try have : w2.heap.size < w3.heap.size:=by omega);(try have : w2.heap.size + 1 < w3.heap.size:=by omega);(try have : w2.heap.size + 1 + 1 < w3.heap.size:=by omega);(try have : w2.heap.size + 1 + 1 + 1 < w3.heap.size:=by omega)) | ((go_at_call 91;with_reducible refine (HNB.out _).mono ?_);rintro _ w4 ⟨rfl,hb4⟩;have hb4s:=hb4.size;(try simp only [wsA,wsS,wsD,wsN] at hb4s);obtain ⟨hb4c,hb4f⟩:=bcell hb4;(try have : w.heap.size < w4.heap.size:=by omega);(try have : w.heap.size + 1 < w4.heap.size:=by omega);(try have : w.heap.size + 1 + 1 < w4.heap.size:=by omega);(try have : w.heap.size + 1 + 1 + 1 < w4.heap.size:=by omega);(try have : w1.heap.size < w4.heap.size:=by omega);(try have : w1.heap.size + 1 < w4.heap.size:=by omega);(try have : w1.heap.size + 1 + 1 < w4.heap.size:=by omega);(try have : w1.heap.size + 1 + 1 + 1 < w4.heap.size:=by omega);(try have : w2.heap.size < w4.heap.size:=by omega);(try have : w2.heap.size + 1 < w4.heap.size:=by omega);(try have : w2.heap.size + 1 + 1 < w4.heap.size:=by omega);(try have : w2.heap.size + 1 + 1 + 1 < w4.heap.size:=by omega);(try have : w3.heap.size < w4.heap.size:=by omega);(try have : w3.heap.size + 1 < w4.heap.size:=by omega);(try have : w3.heap.size + 1 + 1 < w4.heap.size:=by omega);(try have : w3.heap.size + 1 + 1 + 1 < w4.heap.size:=by omega)))
     refine bodyPost_ret (by simp [results,Tryz.results65,go_sem, *];try rfl) rfl ?_
     exact ⟨rfl,by exact bel⟩
    ·go_enter Tryz.func65,Tryz.ntmps65
     go_wp2_with (first | ((go_at_call 89;with_reducible refine (HP.out _).mono ?_);rintro _ w1 ⟨rfl,hb1⟩;have hb1s:=hb1.size;(try simp only [wsA,wsS,wsD,wsN] at hb1s);obtain ⟨hb1c,hb1f⟩:=bcell hb1;(try have : w.heap.size < w1.heap.size:=by omega);(try have : w.heap.size + 1 < w1.heap.size:=by omega);(try have : w.heap.size + 1 + 1 < w1.heap.size:=by omega);(try have : w.heap.size + 1 + 1 + 1 < w1.heap.size:=by omega)) | ((go_at_call 134;with_reducible refine (HC.out _).mono ?_);rintro _ w2 ⟨rfl,hb2⟩;have hb2s:=hb2.size;(try simp only [wsA,wsS,wsD,wsN] at hb2s);obtain ⟨hb2c,hb2f⟩:=bcell hb2;(try have : w.heap.size < w2.heap.size:=by omega);(try have : w.heap.size + 1 < w2.heap.size:=by omega);(try have : w.heap.size + 1 + 1 < w2.heap.size:=by omega);(try have : w.heap.size + 1 + 1 + 1 < w2.heap.size:=by omega);(try have : w1.heap.size < w2.heap.size:=by omega);(try have : w1.heap.size + 1 < w2.heap.size:=by omega);(try have : w1.heap.size + 1 + 1 < w2.heap.size:=by omega);(try have : w1.heap.size + 1 + 1 + 1 < w2.heap.size:=by omega)) | (go_at_call 90;go_in) | ((go_at_call 91;with_reducible refine (HNA.out _).mono ?_);rintro _ w3 ⟨rfl,hb3⟩;have hb3s:=hb3.size;(try simp only [wsA,wsS,wsD,wsN] at hb3s);obtain ⟨hb3c,hb3f⟩:=bcell hb3;(try have : w.heap.size < w3.heap.size:=by omega);(try have : w.heap.size + 1 < w3.heap.size:=by omega);(try have : w.heap.size + 1 + 1 < w3.heap.size:=by omega);(try have : w.heap.size + 1 + 1 + 1 < w3.heap.size:=by omega);(try have : w1.heap.size < w3.heap.size:=by omega);(try have : w1.heap.size + 1 < w3.heap.size:=by omega);(try have : w1.heap.size + 1 + 1 < w3.heap.size:=by omega);(try have : w1.heap.size + 1 + 1 + 1 < w3.heap.size:=by omega);(try have : w2.heap.size < w3.heap.size:=by omega);(try have : w2.heap.size + 1 < w3.heap.size:=by omega);(try have : w2.heap.size + 1 + 1 < w3.heap.size:=by omega);(try have : w2.heap.size + 1 + 1 + 1 < w3.heap.size:=by omega)) | ((go_at_call 91;with_reducible refine (HNB.out _).mono ?_);rintro _ w4 ⟨rfl,hb4⟩;have hb4s:=hb4.size;(try simp only [wsA,wsS,wsD,wsN] at hb4s);obtain ⟨hb4c,hb4f⟩:=bcell hb4;(try have : w.heap.size < w4.heap.size:=by omega);(try have : w.heap.size + 1 < w4.heap.size:=by omega);(try have : w.heap.size + 1 + 1 < w4.heap.size:=by omega);(try have : w.heap.size + 1 + 1 + 1 < w4.heap.size:=by omega);(try have : w1.heap.size < w4.heap.size:=by omega);(try have : w1.heap.size + 1 < w4.heap.size:=by omega);(try have : w1.heap.size + 1 + 1 < w4.heap.size:=by omega);(try have : w1.heap.size + 1 + 1 + 1 < w4.heap.size:=by omega);(try have : w2.heap.size < w4.heap.size:=by omega);(try have : w2.heap.size + 1 < w4.heap.size:=by omega);(try have : w2.heap.size + 1 + 1 < w4.heap.size:=by omega);(try have : w2.heap.size + 1 + 1 + 1 < w4.heap.size:=by omega);(try have : w3.heap.size < w4.heap.size:=by omega);(try have : w3.heap.size + 1 < w4.heap.size:=by omega);(try have : w3.heap.size + 1 + 1 < w4.heap.size:=by omega);(try have : w3.heap.size + 1 + 1 + 1 < w4.heap.size:=by omega)))
     refine bodyPost_ret (by simp [results,Tryz.results65,go_sem, *];try rfl) rfl ?_
     exact ⟨rfl,by exact bel⟩
   ·have hdb2 : dt = false ∨ (dt = true ∧ isDs b = true):=by
     cases dt with
     | false => exact .inl rfl
     | true =>
      right
      refine ⟨rfl, ?_⟩
      cases h : isDs b with
      | true => rfl
      | false => exact absurd ⟨rfl,h⟩ hdb
    have hr : R = parS1 neg a (rt0 b):=by
     rw [HR.out]
     refine parS_yes ⟨hda,h1,fun h => ?_⟩
     rcases hdb2 with q | ⟨_,q⟩
     ·rw [q] at h;exact Bool.noConfusion h
     ·exact q
    have hall : (a ++ rt0 b).all isD = true:=by
     have q1 : a.all isD = true:=by
      unfold isDs at hda
      rw [Bool.and_eq_true] at hda;exact hda.2
     have q2 : b.all isD = true:=by
      rcases hdb2 with q | ⟨_,q⟩
      ·rw [HB0.out q];rfl
      ·unfold isDs at q
       rw [Bool.and_eq_true] at q;exact q.2
     rw [List.all_append,q1,rt0_all q2];rfl
    have hrl:=rt0_len b
    have HALL:=Lib.hid hall
    have HR1:=Lib.hid hr
    clear HR hr hall hda hdb h1 hhd hne HB0
    go_enter Tryz.func65,Tryz.ntmps65
    go_upto_region 3 with (first | ((go_at_call 89;with_reducible refine (HP.out _).mono ?_);rintro _ w1 ⟨rfl,hb1⟩;have hb1s:=hb1.size;(try simp only [wsA,wsS,wsD,wsN] at hb1s);obtain ⟨hb1c,hb1f⟩:=bcell hb1;(try have : w.heap.size < w1.heap.size:=by omega);(try have : w.heap.size + 1 < w1.heap.size:=by omega);(try have : w.heap.size + 1 + 1 < w1.heap.size:=by omega);(try have : w.heap.size + 1 + 1 + 1 < w1.heap.size:=by omega)) | ((go_at_call 134;with_reducible refine (HC.out _).mono ?_);rintro _ w2 ⟨rfl,hb2⟩;have hb2s:=hb2.size;(try simp only [wsA,wsS,wsD,wsN] at hb2s);obtain ⟨hb2c,hb2f⟩:=bcell hb2;(try have : w.heap.size < w2.heap.size:=by omega);(try have : w.heap.size + 1 < w2.heap.size:=by omega);(try have : w.heap.size + 1 + 1 < w2.heap.size:=by omega);(try have : w.heap.size + 1 + 1 + 1 < w2.heap.size:=by omega);(try have : w1.heap.size < w2.heap.size:=by omega);(try have : w1.heap.size + 1 < w2.heap.size:=by omega);(try have : w1.heap.size + 1 + 1 < w2.heap.size:=by omega);(try have : w1.heap.size + 1 + 1 + 1 < w2.heap.size:=by omega)) | (go_at_call 90;go_in))
    go_cut [42] (fun s42 wx => s42 = .bool false ∧ Bk wx w.heap.size 27 [.bool false,.int .u64 0,.int .u64 0,.int .i64 0] ∧ Below w.heap.size w wx)
    case first =>
     rcases hdb2 with rfl | ⟨rfl,hdb2⟩
     ·clear HNB
      rcases hnz with h2 | ⟨h2,h3⟩
      ·have h2' : ¬ (1 : Int) < (a.length : Int):=by omega
       go_wp2_with (first | ((go_at_call 91;with_reducible refine (HNA.out _).mono ?_);rintro _ w3 ⟨rfl,hb3⟩;have hb3s:=hb3.size;(try simp only [wsA,wsS,wsD,wsN] at hb3s);obtain ⟨hb3c,hb3f⟩:=bcell hb3;(try have : w.heap.size < w3.heap.size:=by omega);(try have : w.heap.size + 1 < w3.heap.size:=by omega);(try have : w.heap.size + 1 + 1 < w3.heap.size:=by omega);(try have : w.heap.size + 1 + 1 + 1 < w3.heap.size:=by omega);(try have : w1.heap.size < w3.heap.size:=by omega);(try have : w1.heap.size + 1 < w3.heap.size:=by omega);(try have : w1.heap.size + 1 + 1 < w3.heap.size:=by omega);(try have : w1.heap.size + 1 + 1 + 1 < w3.heap.size:=by omega);(try have : w2.heap.size < w3.heap.size:=by omega);(try have : w2.heap.size + 1 < w3.heap.size:=by omega);(try have : w2.heap.size + 1 + 1 < w3.heap.size:=by omega);(try have : w2.heap.size + 1 + 1 + 1 < w3.heap.size:=by omega)) | ((go_at_call 91;with_reducible refine (HNB.out _).mono ?_);rintro _ w4 ⟨rfl,hb4⟩;have hb4s:=hb4.size;(try simp only [wsA,wsS,wsD,wsN] at hb4s);obtain ⟨hb4c,hb4f⟩:=bcell hb4;(try have : w.heap.size < w4.heap.size:=by omega);(try have : w.heap.size + 1 < w4.heap.size:=by omega);(try have : w.heap.size + 1 + 1 < w4.heap.size:=by omega);(try have : w.heap.size + 1 + 1 + 1 < w4.heap.size:=by omega);(try have : w1.heap.size < w4.heap.size:=by omega);(try have : w1.heap.size + 1 < w4.heap.size:=by omega);(try have : w1.heap.size + 1 + 1 < w4.heap.size:=by omega);(try have : w1.heap.size + 1 + 1 + 1 < w4.heap.size:=by omega);(try have : w2.heap.size < w4.heap.size:=by omega);(try have : w2.heap.size + 1 < w4.heap.size:=by omega);(try have : w2.heap.size + 1 + 1 < w4.heap.size:=by omega);(try have : w2.heap.size + 1 + 1 + 1 < w4.heap.size:=by omega);(try have : w3.heap.size < w4.heap.size:=by omega);(try have : w3.heap.size + 1 < w4.heap.size:=by omega);(try have : w3.heap.size + 1 + 1 < w4.heap.size:=by omega);(try have : w3.heap.size + 1 + 1 + 1 < w4.heap.size:=by omega)))
       go_meet
       case rel => exact ⟨rfl,by exact bkk,by exact bel⟩
      ·go_wp2_with (first | ((go_at_call 91;with_reducible refine (HNA.out _).mono ?_);rintro _ w3 ⟨rfl,hb3⟩;have hb3s:=hb3.size;(try simp only [wsA,wsS,wsD,wsN] at hb3s);obtain ⟨hb3c,hb3f⟩:=bcell hb3;(try have : w.heap.size < w3.heap.size:=by omega);(try have : w.heap.size + 1 < w3.heap.size:=by omega);(try have : w.heap.size + 1 + 1 < w3.heap.size:=by omega);(try have : w.heap.size + 1 + 1 + 1 < w3.heap.size:=by omega);(try have : w1.heap.size < w3.heap.size:=by omega);(try have : w1.heap.size + 1 < w3.heap.size:=by omega);(try have : w1.heap.size + 1 + 1 < w3.heap.size:=by omega);(try have : w1.heap.size + 1 + 1 + 1 < w3.heap.size:=by omega);(try have : w2.heap.size < w3.heap.size:=by omega);(try have : w2.heap.size + 1 < w3.heap.size:=by omega);(try have : w2.heap.size + 1 + 1 < w3.heap.size:=by omega);(try have : w2.heap.size + 1 + 1 + 1 < w3.heap.size:=by omega)) | ((go_at_call 91;with_reducible refine (HNB.out _).mono ?_);rintro _ w4 ⟨rfl,hb4⟩;have hb4s:=hb4.size;(try simp only [wsA,wsS,wsD,wsN] at hb4s);obtain ⟨hb4c,hb4f⟩:=bcell hb4;(try have : w.heap.size < w4.heap.size:=by omega);(try have : w.heap.size + 1 < w4.heap.size:=by omega);(try have : w.heap.size + 1 + 1 < w4.heap.size:=by omega);(try have : w.heap.size + 1 + 1 + 1 < w4.heap.size:=by omega);(try have : w1.heap.size < w4.heap.size:=by omega);(try have : w1.heap.size + 1 < w4.heap.size:=by omega);(try have : w1.heap.size + 1 + 1 < w4.heap.size:=by omega);(try have : w1.heap.size + 1 + 1 + 1 < w4.heap.size:=by omega);(try have : w2.heap.size < w4.heap.size:=by omega);(try have : w2.heap.size + 1 < w4.heap.size:=by omega);(try have : w2.heap.size + 1 + 1 < w4.heap.size:=by omega);(try have : w2.heap.size + 1 + 1 + 1 < w4.heap.size:=by omega);(try have : w3.heap.size < w4.heap.size:=by omega);(try have : w3.heap.size + 1 < w4.heap.size:=by omega);(try have : w3.heap.size + 1 + 1 < w4.heap.size:=by omega);(try have : w3.heap.size + 1 + 1 + 1 < w4.heap.size:=by omega)))
       go_meet
       case rel => exact ⟨rfl,by exact bkk,by exact bel⟩
     ·rw [hdb2] at HNB
      clear hdb2
      rcases hnz with h2 | ⟨h2,h3⟩
      ·have h2' : ¬ (1 : Int) < (a.length : Int):=by omega
       go_wp2_with (first | ((go_at_call 91;with_reducible refine (HNA.out _).mono ?_);rintro _ w3 ⟨rfl,hb3⟩;have hb3s:=hb3.size;(try simp only [wsA,wsS,wsD,wsN] at hb3s);obtain ⟨hb3c,hb3f⟩:=bcell hb3;(try have : w.heap.size < w3.heap.size:=by omega);(try have : w.heap.size + 1 < w3.heap.size:=by omega);(try have : w.heap.size + 1 + 1 < w3.heap.size:=by omega);(try have : w.heap.size + 1 + 1 + 1 < w3.heap.size:=by omega);(try have : w1.heap.size < w3.heap.size:=by omega);(try have : w1.heap.size + 1 < w3.heap.size:=by omega);(try have : w1.heap.size + 1 + 1 < w3.heap.size:=by omega);(try have : w1.heap.size + 1 + 1 + 1 < w3.heap.size:=by omega);(try have : w2.heap.size < w3.heap.size:=by omega);(try have : w2.heap.size + 1 < w3.heap.size:=by omega);(try have : w2.heap.size + 1 + 1 < w3.heap.size:=by omega);(try have : w2.heap.size + 1 + 1 + 1 < w3.heap.size:=by omega)) | ((go_at_call 91;with_reducible refine (HNB.out _).mono ?_);rintro _ w4 ⟨rfl,hb4⟩;have hb4s:=hb4.size;(try simp only [wsA,wsS,wsD,wsN] at hb4s);obtain ⟨hb4c,hb4f⟩:=bcell hb4;(try have : w.heap.size < w4.heap.size:=by omega);(try have : w.heap.size + 1 < w4.heap.size:=by omega);(try have : w.heap.size + 1 + 1 < w4.heap.size:=by omega);(try have : w.heap.size + 1 + 1 + 1 < w4.heap.size:=by omega);(try have : w1.heap.size < w4.heap.size:=by omega);(try have : w1.heap.size + 1 < w4.heap.size:=by omega);(try have : w1.heap.size + 1 + 1 < w4.heap.size:=by omega);(try have : w1.heap.size + 1 + 1 + 1 < w4.heap.size:=by omega);(try have : w2.heap.size < w4.heap.size:=by omega);(try have : w2.heap.size + 1 < w4.heap.size:=by omega);(try have : w2.heap.size + 1 + 1 < w4.heap.size:=by omega);(try have : w2.heap.size + 1 + 1 + 1 < w4.heap.size:=by omega);(try have : w3.heap.size < w4.heap.size:=by omega);(try have : w3.heap.size + 1 < w4.heap.size:=by omega);(try have : w3.heap.size + 1 + 1 < w4.heap.size:=by omega);(try have : w3.heap.size + 1 + 1 + 1 < w4.heap.size:=by omega)))
       go_meet
       case rel => exact ⟨rfl,by exact bkk,by exact bel⟩
      ·go_wp2_with (first | ((go_at_call 91;with_reducible refine (HNA.out _).mono ?_);rintro _ w3 ⟨rfl,hb3⟩;have hb3s:=hb3.size;(try simp only [wsA,wsS,wsD,wsN] at hb3s);obtain ⟨hb3c,hb3f⟩:=bcell hb3;(try have : w.heap.size < w3.heap.size:=by omega);(try have : w.heap.size + 1 < w3.heap.size:=by omega);(try have : w.heap.size + 1 + 1 < w3.heap.size:=by omega);(try have : w.heap.size + 1 + 1 + 1 < w3.heap.size:=by omega);(try have : w1.heap.size < w3.heap.size:=by omega);(try have : w1.heap.size + 1 < w3.heap.size:=by omega);(try have : w1.heap.size + 1 + 1 < w3.heap.size:=by omega);(try have : w1.heap.size + 1 + 1 + 1 < w3.heap.size:=by omega);(try have : w2.heap.size < w3.heap.size:=by omega);(try have : w2.heap.size + 1 < w3.heap.size:=by omega);(try have : w2.heap.size + 1 + 1 < w3.heap.size:=by omega);(try have : w2.heap.size + 1 + 1 + 1 < w3.heap.size:=by omega)) | ((go_at_call 91;with_reducible refine (HNB.out _).mono ?_);rintro _ w4 ⟨rfl,hb4⟩;have hb4s:=hb4.size;(try simp only [wsA,wsS,wsD,wsN] at hb4s);obtain ⟨hb4c,hb4f⟩:=bcell hb4;(try have : w.heap.size < w4.heap.size:=by omega);(try have : w.heap.size + 1 < w4.heap.size:=by omega);(try have : w.heap.size + 1 + 1 < w4.heap.size:=by omega);(try have : w.heap.size + 1 + 1 + 1 < w4.heap.size:=by omega);(try have : w1.heap.size < w4.heap.size:=by omega);(try have : w1.heap.size + 1 < w4.heap.size:=by omega);(try have : w1.heap.size + 1 + 1 < w4.heap.size:=by omega);(try have : w1.heap.size + 1 + 1 + 1 < w4.heap.size:=by omega);(try have : w2.heap.size < w4.heap.size:=by omega);(try have : w2.heap.size + 1 < w4.heap.size:=by omega);(try have : w2.heap.size + 1 + 1 < w4.heap.size:=by omega);(try have : w2.heap.size + 1 + 1 + 1 < w4.heap.size:=by omega);(try have : w3.heap.size < w4.heap.size:=by omega);(try have : w3.heap.size + 1 < w4.heap.size:=by omega);(try have : w3.heap.size + 1 + 1 < w4.heap.size:=by omega);(try have : w3.heap.size + 1 + 1 + 1 < w4.heap.size:=by omega)))
       go_meet
       case rel => exact ⟨rfl,by exact bkk,by exact bel⟩
    case rest =>
     obtain ⟨rfl,k2,mb⟩:=hcut
     clear hnz hdb2 HNA HNB HC HP
     have l2:=k2.lt
     have K2:=Lib.hid k2
     have c0:=k2.cell 0 rfl
     have c1:=k2.cell 1 rfl
     have c2:=k2.cell 2 rfl
     have c3:=k2.cell 3 rfl
     have f0:=k2.frozen 0
     have f1:=k2.frozen 1
     have f2:=k2.frozen 2
     have f3:=k2.frozen 3
     clear k2
     obtain ⟨b',hb'⟩ : ∃ b',b' = rt0 b:=⟨_,rfl⟩
     rw [← hb'] at HTR HALL HR1 hrl
     clear hb'
     have hs1 : a.length + b'.length ≤ 9223372036854775807:=by omega
     have hs2 : (a.length : Int) + (b'.length : Int) ≤ 9223372036854775807:=by omega
     have HTL:=Lib.hid (fun W => tl_any (a ++ b') W)
     rw [show (⟨(a ++ b').toArray⟩ : ByteArray) = (⟨a.toArray⟩ : ByteArray) ++ ⟨b'.toArray⟩ from (cat_mk a b').symm] at HTL
     clear hab hsm hrl
     have E1:=Lib.hid (lt0_nil HALL.out)
     have E2:=Lib.hid (lt0_34 HALL.out)
     have E3:=Lib.hid (lt0_ok HALL.out)
     have E4:=Lib.hid (lt0_dvb (a ++ b'))
     obtain ⟨d,hd⟩ : ∃ d,d = lt0 (a ++ b'):=⟨_,rfl⟩
     rw [← hd] at E1 E2 E3 E4 HTL
     have HDL : d.length ≤ 9223372036854775807:=by
      have:=lt0_len (a ++ b')
      rw [← hd,List.length_append] at this
      omega
     obtain ⟨v,hv⟩ : ∃ v,v = dvb (a ++ b') 0:=⟨_,rfl⟩
     unfold parS1 at HR1
     rw [← hv] at E1 E2 E4 HR1
     clear hd hv HALL
     by_cases hd0 : d = []
     ·have hv0 : v = 0:=E1.out.1 hd0
      have hr : R = (false,0,0,if neg = true then 5 else 0):=by rw [HR1.out,if_pos hv0]
      subst hd0
      clear E1 E2 E3 E4 hv0 HDL HR1
      cases neg with
      | true =>
       rw [if_pos rfl] at hr
       subst hr
       go_wp2_with (first | ((go_at_call 92;with_reducible refine (HTR.out _).mono ?_);rintro _ w5 ⟨rfl,hb5⟩;have hb5s:=hb5.size;(try simp only [wsA,wsS,wsD,wsN] at hb5s);obtain ⟨hb5c,hb5f⟩:=bcell hb5;(try have : w.heap.size < w5.heap.size:=by omega);(try have : w.heap.size + 1 < w5.heap.size:=by omega);(try have : w.heap.size + 1 + 1 < w5.heap.size:=by omega);(try have : w.heap.size + 1 + 1 + 1 < w5.heap.size:=by omega)) | ((go_at_call 93;with_reducible refine (HTL.out _).mono ?_);rintro _ w6 ⟨rfl,hb6⟩;have hb6s:=hb6.size;(try simp only [wsA,wsS,wsD,wsN] at hb6s);obtain ⟨hb6c,hb6f⟩:=bcell hb6;(try have : w.heap.size < w6.heap.size:=by omega);(try have : w.heap.size + 1 < w6.heap.size:=by omega);(try have : w.heap.size + 1 + 1 < w6.heap.size:=by omega);(try have : w.heap.size + 1 + 1 + 1 < w6.heap.size:=by omega);(try have : w5.heap.size < w6.heap.size:=by omega);(try have : w5.heap.size + 1 < w6.heap.size:=by omega);(try have : w5.heap.size + 1 + 1 < w6.heap.size:=by omega);(try have : w5.heap.size + 1 + 1 + 1 < w6.heap.size:=by omega)))
       refine bodyPost_ret (by simp [results,Tryz.results65,go_sem, *];try rfl) rfl ?_
       exact ⟨by (try dsimp only);(try rw [w0_0,w0_1]);(try rfl),by exact bel⟩
      | false =>
       rw [if_neg (by decide)] at hr
       subst hr
       go_wp2_with (first | ((go_at_call 92;with_reducible refine (HTR.out _).mono ?_);rintro _ w5 ⟨rfl,hb5⟩;have hb5s:=hb5.size;(try simp only [wsA,wsS,wsD,wsN] at hb5s);obtain ⟨hb5c,hb5f⟩:=bcell hb5;(try have : w.heap.size < w5.heap.size:=by omega);(try have : w.heap.size + 1 < w5.heap.size:=by omega);(try have : w.heap.size + 1 + 1 < w5.heap.size:=by omega);(try have : w.heap.size + 1 + 1 + 1 < w5.heap.size:=by omega)) | ((go_at_call 93;with_reducible refine (HTL.out _).mono ?_);rintro _ w6 ⟨rfl,hb6⟩;have hb6s:=hb6.size;(try simp only [wsA,wsS,wsD,wsN] at hb6s);obtain ⟨hb6c,hb6f⟩:=bcell hb6;(try have : w.heap.size < w6.heap.size:=by omega);(try have : w.heap.size + 1 < w6.heap.size:=by omega);(try have : w.heap.size + 1 + 1 < w6.heap.size:=by omega);(try have : w.heap.size + 1 + 1 + 1 < w6.heap.size:=by omega);(try have : w5.heap.size < w6.heap.size:=by omega);(try have : w5.heap.size + 1 < w6.heap.size:=by omega);(try have : w5.heap.size + 1 + 1 < w6.heap.size:=by omega);(try have : w5.heap.size + 1 + 1 + 1 < w6.heap.size:=by omega)))
       refine bodyPost_ret (by simp [results,Tryz.results65,go_sem, *];try rfl) rfl ?_
       exact ⟨by (try dsimp only);(try rw [w0_0,w0_1]);(try rfl),by exact bel⟩
     ·have hv0 : v ≠ 0:=fun e => hd0 (E1.out.2 e)
      have e1 : (d == []) = false:=by simpa using hd0
      have e2 : (d != []) = true:=by simpa using hd0
      have e3 : d.isEmpty = false:=by simpa using hd0
      by_cases h18 : 18 < b'.length
      ·have hr : R = (false,0,0,3):=by rw [HR1.out,if_neg hv0,if_pos (.inl h18)]
       subst hr
       have h18' : (18 : Int) < (b'.length : Int):=by omega
       clear E1 E2 E3 E4 hv0 HR1 hd0
       go_wp2_with (first | ((go_at_call 92;with_reducible refine (HTR.out _).mono ?_);rintro _ w5 ⟨rfl,hb5⟩;have hb5s:=hb5.size;(try simp only [wsA,wsS,wsD,wsN] at hb5s);obtain ⟨hb5c,hb5f⟩:=bcell hb5;(try have : w.heap.size < w5.heap.size:=by omega);(try have : w.heap.size + 1 < w5.heap.size:=by omega);(try have : w.heap.size + 1 + 1 < w5.heap.size:=by omega);(try have : w.heap.size + 1 + 1 + 1 < w5.heap.size:=by omega)) | ((go_at_call 93;with_reducible refine (HTL.out _).mono ?_);rintro _ w6 ⟨rfl,hb6⟩;have hb6s:=hb6.size;(try simp only [wsA,wsS,wsD,wsN] at hb6s);obtain ⟨hb6c,hb6f⟩:=bcell hb6;(try have : w.heap.size < w6.heap.size:=by omega);(try have : w.heap.size + 1 < w6.heap.size:=by omega);(try have : w.heap.size + 1 + 1 < w6.heap.size:=by omega);(try have : w.heap.size + 1 + 1 + 1 < w6.heap.size:=by omega);(try have : w5.heap.size < w6.heap.size:=by omega);(try have : w5.heap.size + 1 < w6.heap.size:=by omega);(try have : w5.heap.size + 1 + 1 < w6.heap.size:=by omega);(try have : w5.heap.size + 1 + 1 + 1 < w6.heap.size:=by omega)))
       refine bodyPost_ret (by simp [results,Tryz.results65,go_sem, *];try rfl) rfl ?_
       exact ⟨by (try dsimp only);(try rw [w0_0,w0_1]);(try rfl),by exact bel⟩
      ·have h18' : ¬ (18 : Int) < (b'.length : Int):=by omega
       by_cases h34 : d.length ≤ 34
       ·have hvB : v < B34:=E2.out.1 h34
        have hr : R = (neg,v,b'.length,0):=by rw [HR1.out,if_neg hv0,if_neg (by rintro (q | q);exact h18 q;exact q hvB)]
        subst hr
        have h34' : ¬ (34 : Int) < (d.length : Int):=by omega
        have hok:=E3.out hd0
        have hrd:=fun W => read_ok ⟨d.toArray⟩ (by simpa using hok) (by rw [Lib.size_mk];unfold maxLen;omega) W
        have hdd : (⟨d.toArray⟩ : ByteArray).data.toList = d:=by simp
        rw [hdd] at hrd
        obtain ⟨q1,q2⟩:=rd_fits (l:=d) (by rw [E4.out];exact Nat.lt_trans hvB B34_lt)
        rw [q1,q2,E4.out] at hrd
        have HRD:=Lib.hid hrd
        clear E1 E2 E3 E4 hv0 HR1 hd0 hrd q1 q2 hok hvB hdd
        obtain ⟨v1,hv1⟩ : ∃ v1,v1 = wd v 1:=⟨_,rfl⟩
        obtain ⟨v0,hv0⟩ : ∃ v0,v0 = wd v 0:=⟨_,rfl⟩
        rw [← hv1,← hv0] at HRD
        have HV1:=Lib.hid hv1
        have HV0:=Lib.hid hv0
        clear hv1 hv0
        go_wp2_with (first | ((go_at_call 92;with_reducible refine (HTR.out _).mono ?_);rintro _ w5 ⟨rfl,hb5⟩;have hb5s:=hb5.size;(try simp only [wsA,wsS,wsD,wsN] at hb5s);obtain ⟨hb5c,hb5f⟩:=bcell hb5;(try have : w.heap.size < w5.heap.size:=by omega);(try have : w.heap.size + 1 < w5.heap.size:=by omega);(try have : w.heap.size + 1 + 1 < w5.heap.size:=by omega);(try have : w.heap.size + 1 + 1 + 1 < w5.heap.size:=by omega)) | ((go_at_call 93;with_reducible refine (HTL.out _).mono ?_);rintro _ w6 ⟨rfl,hb6⟩;have hb6s:=hb6.size;(try simp only [wsA,wsS,wsD,wsN] at hb6s);obtain ⟨hb6c,hb6f⟩:=bcell hb6;(try have : w.heap.size < w6.heap.size:=by omega);(try have : w.heap.size + 1 < w6.heap.size:=by omega);(try have : w.heap.size + 1 + 1 < w6.heap.size:=by omega);(try have : w.heap.size + 1 + 1 + 1 < w6.heap.size:=by omega);(try have : w5.heap.size < w6.heap.size:=by omega);(try have : w5.heap.size + 1 < w6.heap.size:=by omega);(try have : w5.heap.size + 1 + 1 < w6.heap.size:=by omega);(try have : w5.heap.size + 1 + 1 + 1 < w6.heap.size:=by omega)) | ((go_at_call 94;with_reducible refine (HRD.out _).mono ?_);rintro _ w7 ⟨rfl,hb7⟩;have hb7s:=hb7.size;(try simp only [wsA,wsS,wsD,wsN] at hb7s);obtain ⟨hb7c,hb7f⟩:=bcell hb7;(try have : w.heap.size < w7.heap.size:=by omega);(try have : w.heap.size + 1 < w7.heap.size:=by omega);(try have : w.heap.size + 1 + 1 < w7.heap.size:=by omega);(try have : w.heap.size + 1 + 1 + 1 < w7.heap.size:=by omega);(try have : w5.heap.size < w7.heap.size:=by omega);(try have : w5.heap.size + 1 < w7.heap.size:=by omega);(try have : w5.heap.size + 1 + 1 < w7.heap.size:=by omega);(try have : w5.heap.size + 1 + 1 + 1 < w7.heap.size:=by omega);(try have : w6.heap.size < w7.heap.size:=by omega);(try have : w6.heap.size + 1 < w7.heap.size:=by omega);(try have : w6.heap.size + 1 + 1 < w7.heap.size:=by omega);(try have : w6.heap.size + 1 + 1 + 1 < w7.heap.size:=by omega)))
        refine bodyPost_ret (by simp [results,Tryz.results65,go_sem, *];try rfl) rfl ?_
        exact ⟨by rw [← HV1.out,← HV0.out],by exact bel⟩
       ·have hvB : ¬ v < B34:=fun q => h34 (E2.out.2 q)
        have hr : R = (false,0,0,3):=by rw [HR1.out,if_neg hv0,if_pos (.inr hvB)]
        subst hr
        have h34' : (34 : Int) < (d.length : Int):=by omega
        clear E1 E2 E3 E4 hv0 HR1 hd0 hvB
        go_wp2_with (first | ((go_at_call 92;with_reducible refine (HTR.out _).mono ?_);rintro _ w5 ⟨rfl,hb5⟩;have hb5s:=hb5.size;(try simp only [wsA,wsS,wsD,wsN] at hb5s);obtain ⟨hb5c,hb5f⟩:=bcell hb5;(try have : w.heap.size < w5.heap.size:=by omega);(try have : w.heap.size + 1 < w5.heap.size:=by omega);(try have : w.heap.size + 1 + 1 < w5.heap.size:=by omega);(try have : w.heap.size + 1 + 1 + 1 < w5.heap.size:=by omega)) | ((go_at_call 93;with_reducible refine (HTL.out _).mono ?_);rintro _ w6 ⟨rfl,hb6⟩;have hb6s:=hb6.size;(try simp only [wsA,wsS,wsD,wsN] at hb6s);obtain ⟨hb6c,hb6f⟩:=bcell hb6;(try have : w.heap.size < w6.heap.size:=by omega);(try have : w.heap.size + 1 < w6.heap.size:=by omega);(try have : w.heap.size + 1 + 1 < w6.heap.size:=by omega);(try have : w.heap.size + 1 + 1 + 1 < w6.heap.size:=by omega);(try have : w5.heap.size < w6.heap.size:=by omega);(try have : w5.heap.size + 1 < w6.heap.size:=by omega);(try have : w5.heap.size + 1 + 1 < w6.heap.size:=by omega);(try have : w5.heap.size + 1 + 1 + 1 < w6.heap.size:=by omega)))
        refine bodyPost_ret (by simp [results,Tryz.results65,go_sem, *];try rfl) rfl ?_
        exact ⟨by (try dsimp only);(try rw [w0_0,w0_1]);(try rfl),by exact bel⟩
end Go.Proofs.YtbnadlpkbbdgjaaGreatDoor

