/- The contracts of the functions that the laws reach, part 8: what each returns and what becomes of memory. -/
import Derived.Lib.TrimByte
import Derived.Test.YtbnadlpkbbdgjaaGreatDoorM7
set_option linter.unusedSimpArgs false
set_option linter.unusedVariables false


namespace Go.Proofs.YtbnadlpkbbdgjaaGreatDoor
open Go.RowKit

/-- the next one above: its sign -/
def nextN (b : Bool) (c s : Nat) : Bool:=if b = true then sg true (NbC (nb c s b)) else false
set_option maxRecDepth 100000 in
set_option maxHeartbeats 4000000 in
theorem next_ok (b : Bool) (c s : Nat) (hc : c < B34) (hs : s ≤ 18) (h : dform b c s = true) (hb : c = 0 → b = false) (w : World) : Calls Tryz.prog 67 #[.agg #[.bool b,.int .u64 (wd (c) 1),.int .u64 (wd (c) 0),.int .i64 s]] w fun e w' => e = .returned (.tuple #[.agg #[.bool (nextN b c s),.int .u64 (wd ((NbC (nb c s b))) 1),.int .u64 (wd ((NbC (nb c s b))) 0),.int .i64 (NbS (nb c s b))],.int .i64 (NbE (nb c s b))]) ∧ Below w.heap.size w w':=by
 have hc2:=Nat.lt_trans hc B34_lt
 have HF:=Lib.hid (fun g W hg => formed_one b c s hc2 g W hg)
 rw [h] at HF
 simp only [ferr,if_pos,if_neg,Bool.false_eq_true,if_true,if_false] at HF
 have HB:=Lib.hid (fun W => beside_any b c s b hc hs (fun h0 h1 => by have:=hb h1;rw [this] at h0;cases h0) W)
 have hC : NbC (nb c s b) < 2 ^ 128:=by
  unfold NbC;split
  ·exact Nat.lt_trans (fit_form false _ _).1 B34_lt
  ·decide
 have HT:=Lib.hid (fun W => turned_any false (NbC (nb c s b)) (NbS (nb c s b)) hC W)
 unfold nextN
 generalize NbS (nb c s b) = S at *
 generalize NbE (nb c s b) = E at *
 generalize NbC (nb c s b) = C at *
 have HT : Hid (∀ W,Calls Tryz.prog 102 #[.agg #[.bool false,.int .u64 (wd (C) 1),.int .u64 (wd (C) 0),.int .i64 (S : Int)]] W fun e w' => e = .returned (.agg #[.bool (sg true C),.int .u64 (wd (C) 1),.int .u64 (wd (C) 0),.int .i64 (S : Int)]) ∧ Below W.heap.size W w'):=HT
 generalize wd c 0 = x0 at *
 generalize wd c 1 = x1 at *
 generalize wd C 0 = C0 at *
 generalize wd C 1 = C1 at *
 generalize sg true C = sc at *
 clear hc hc2 h hb hC
 cases b
 ·rw [if_neg Bool.false_ne_true]
  go_enter Tryz.func67,Tryz.ntmps67
  go_wp2_with fail
  (with_reducible refine (HF.out _ _ ?hg).mono ?_)
  case hg => ((repeat (first|(with_reducible assumption)|((with_reducible refine bkW ?_);(first|rfl|(simp only [wsA,wsS,wsD,wsN];done)))|(with_reducible first|refine bkA ?_ _|refine bkD ?_|refine bkN ?_ _)|((with_reducible refine bkF ?_ ?_ _);focus (simp only [];omega))|((with_reducible refine bkB (by assumption) ?_ ?_);focus (go_size;done))));done)
  rintro _ w1 ⟨rfl,hb1⟩;have hb1s:=hb1.size;(try simp only [wsA,wsS,wsD,wsN] at hb1s);obtain ⟨hb1c,hb1f⟩:=bcell hb1;(try have : w.heap.size < w1.heap.size:=by omega);(try have : w.heap.size + 1 < w1.heap.size:=by omega);(try have : w.heap.size + 1 + 1 < w1.heap.size:=by omega);(try have : w.heap.size + 1 + 1 + 1 < w1.heap.size:=by omega)
  have k : Bk w1 (w.heap.size) 27 [.bool false,.int .u64 x1,.int .u64 x0,.int .i64 (s : Int)]:=by exact bkk
  have k_0:=k.cell 0 rfl
  have k_1:=k.cell 1 rfl
  have k_2:=k.cell 2 rfl
  have k_3:=k.cell 3 rfl
  have k_4:=k.frozen 0
  have k_5:=k.frozen 1
  have k_6:=k.frozen 2
  have k_7:=k.frozen 3
  have kl:=k.lt
  have r0 : Bk w1 (w.heap.size + 1) 27 [.bool false,.int .u64 0,.int .u64 0,.int .i64 0]:=by exact bkk
  have r0_0:=r0.cell 0 rfl
  have r0_1:=r0.cell 1 rfl
  have r0_2:=r0.cell 2 rfl
  have r0_3:=r0.cell 3 rfl
  have r0_4:=r0.frozen 0
  have r0_5:=r0.frozen 1
  have r0_6:=r0.frozen 2
  have r0_7:=r0.frozen 3
  have r0l:=r0.lt
  clear hb1c hb1f
  go_wp2_with fail
  refine (HB.out _).mono ?_
  rintro _ w2 ⟨rfl,hb2⟩;have hb2s:=hb2.size;(try simp only [wsA,wsS,wsD,wsN] at hb2s);obtain ⟨hb2c,hb2f⟩:=bcell hb2;(try have : w.heap.size < w2.heap.size:=by omega);(try have : w.heap.size + 1 < w2.heap.size:=by omega);(try have : w.heap.size + 1 + 1 < w2.heap.size:=by omega);(try have : w.heap.size + 1 + 1 + 1 < w2.heap.size:=by omega)
  have qa : Bk w2 w.heap.size 27 [.bool false,.int .u64 x1,.int .u64 x0,.int .i64 (s : Int)]:=by exact bkk
  have qr : Bk w2 (w.heap.size + 1) 27 [.bool false,.int .u64 0,.int .u64 0,.int .i64 0]:=by exact bkk
  have qal:=qa.lt
  have qrl:=qr.lt
  clear k_0 k_1 k_2 k_3 k_4 k_5 k_6 k_7
  clear r0_0 r0_1 r0_2 r0_3 r0_4 r0_5 r0_6 r0_7
  have qa_0:=qa.cell 0 rfl
  have qa_1:=qa.cell 1 rfl
  have qa_2:=qa.cell 2 rfl
  have qa_3:=qa.cell 3 rfl
  have qa_4:=qa.frozen 0
  have qa_5:=qa.frozen 1
  have qa_6:=qa.frozen 2
  have qa_7:=qa.frozen 3
  have qr_0:=qr.cell 0 rfl
  have qr_1:=qr.cell 1 rfl
  have qr_2:=qr.cell 2 rfl
  have qr_3:=qr.cell 3 rfl
  have qr_4:=qr.frozen 0
  have qr_5:=qr.frozen 1
  have qr_6:=qr.frozen 2
  have qr_7:=qr.frozen 3
  clear hb2c hb2f
  go_wp2_with fail
  refine bodyPost_ret (by simp [results,Tryz.results67,go_sem, *];try rfl) rfl ?_
  exact ⟨rfl,by exact bel⟩
 ·rw [if_pos rfl]
  go_enter Tryz.func67,Tryz.ntmps67
  go_wp2_with fail
  (with_reducible refine (HF.out _ _ ?hg).mono ?_)
  case hg => ((repeat (first|(with_reducible assumption)|((with_reducible refine bkW ?_);(first|rfl|(simp only [wsA,wsS,wsD,wsN];done)))|(with_reducible first|refine bkA ?_ _|refine bkD ?_|refine bkN ?_ _)|((with_reducible refine bkF ?_ ?_ _);focus (simp only [];omega))|((with_reducible refine bkB (by assumption) ?_ ?_);focus (go_size;done))));done)
  rintro _ w1 ⟨rfl,hb1⟩;have hb1s:=hb1.size;(try simp only [wsA,wsS,wsD,wsN] at hb1s);obtain ⟨hb1c,hb1f⟩:=bcell hb1;(try have : w.heap.size < w1.heap.size:=by omega);(try have : w.heap.size + 1 < w1.heap.size:=by omega);(try have : w.heap.size + 1 + 1 < w1.heap.size:=by omega);(try have : w.heap.size + 1 + 1 + 1 < w1.heap.size:=by omega)
  have k : Bk w1 (w.heap.size) 27 [.bool true,.int .u64 x1,.int .u64 x0,.int .i64 (s : Int)]:=by exact bkk
  have k_0:=k.cell 0 rfl
  have k_1:=k.cell 1 rfl
  have k_2:=k.cell 2 rfl
  have k_3:=k.cell 3 rfl
  have k_4:=k.frozen 0
  have k_5:=k.frozen 1
  have k_6:=k.frozen 2
  have k_7:=k.frozen 3
  have kl:=k.lt
  have r0 : Bk w1 (w.heap.size + 1) 27 [.bool false,.int .u64 0,.int .u64 0,.int .i64 0]:=by exact bkk
  have r0_0:=r0.cell 0 rfl
  have r0_1:=r0.cell 1 rfl
  have r0_2:=r0.cell 2 rfl
  have r0_3:=r0.cell 3 rfl
  have r0_4:=r0.frozen 0
  have r0_5:=r0.frozen 1
  have r0_6:=r0.frozen 2
  have r0_7:=r0.frozen 3
  have r0l:=r0.lt
  clear hb1c hb1f
  go_wp2_with fail
  refine (HB.out _).mono ?_
  rintro _ w2 ⟨rfl,hb2⟩;have hb2s:=hb2.size;(try simp only [wsA,wsS,wsD,wsN] at hb2s);obtain ⟨hb2c,hb2f⟩:=bcell hb2;(try have : w.heap.size < w2.heap.size:=by omega);(try have : w.heap.size + 1 < w2.heap.size:=by omega);(try have : w.heap.size + 1 + 1 < w2.heap.size:=by omega);(try have : w.heap.size + 1 + 1 + 1 < w2.heap.size:=by omega)
  have qa : Bk w2 w.heap.size 27 [.bool true,.int .u64 x1,.int .u64 x0,.int .i64 (s : Int)]:=by exact bkk
  have qr : Bk w2 (w.heap.size + 1) 27 [.bool false,.int .u64 0,.int .u64 0,.int .i64 0]:=by exact bkk
  have qal:=qa.lt
  have qrl:=qr.lt
  clear k_0 k_1 k_2 k_3 k_4 k_5 k_6 k_7
  clear r0_0 r0_1 r0_2 r0_3 r0_4 r0_5 r0_6 r0_7
  have qa_0:=qa.cell 0 rfl
  have qa_1:=qa.cell 1 rfl
  have qa_2:=qa.cell 2 rfl
  have qa_3:=qa.cell 3 rfl
  have qa_4:=qa.frozen 0
  have qa_5:=qa.frozen 1
  have qa_6:=qa.frozen 2
  have qa_7:=qa.frozen 3
  have qr_0:=qr.cell 0 rfl
  have qr_1:=qr.cell 1 rfl
  have qr_2:=qr.cell 2 rfl
  have qr_3:=qr.cell 3 rfl
  have qr_4:=qr.frozen 0
  have qr_5:=qr.frozen 1
  have qr_6:=qr.frozen 2
  have qr_7:=qr.frozen 3
  clear hb2c hb2f
  go_wp2_with fail
  refine (HT.out _).mono ?_
  rintro _ w3 ⟨rfl,hb3⟩;have hb3s:=hb3.size;(try simp only [wsA,wsS,wsD,wsN] at hb3s);obtain ⟨hb3c,hb3f⟩:=bcell hb3;(try have : w.heap.size < w3.heap.size:=by omega);(try have : w.heap.size + 1 < w3.heap.size:=by omega);(try have : w.heap.size + 1 + 1 < w3.heap.size:=by omega);(try have : w.heap.size + 1 + 1 + 1 < w3.heap.size:=by omega)
  have z5 : Bk w3 w2.heap.size 27 [.bool false,.int .u64 C1,.int .u64 C0,.int .i64 (S : Int)]:=by exact bkk
  have zr : Bk w3 (w.heap.size + 1) 27 [.bool false,.int .u64 0,.int .u64 0,.int .i64 0]:=by exact bkk
  have z5l:=z5.lt
  have zrl:=zr.lt
  have z5_0:=z5.cell 0 rfl
  have z5_1:=z5.cell 1 rfl
  have z5_2:=z5.cell 2 rfl
  have z5_3:=z5.cell 3 rfl
  have z5_4:=z5.frozen 0
  have z5_5:=z5.frozen 1
  have z5_6:=z5.frozen 2
  have z5_7:=z5.frozen 3
  have zr_0:=zr.cell 0 rfl
  have zr_1:=zr.cell 1 rfl
  have zr_2:=zr.cell 2 rfl
  have zr_3:=zr.cell 3 rfl
  have zr_4:=zr.frozen 0
  have zr_5:=zr.frozen 1
  have zr_6:=zr.frozen 2
  have zr_7:=zr.frozen 3
  clear qa_0 qa_1 qa_2 qa_3 qa_4 qa_5 qa_6 qa_7
  clear qr_0 qr_1 qr_2 qr_3 qr_4 qr_5 qr_6 qr_7
  clear hb3c hb3f
  go_wp2_with fail
  refine bodyPost_ret (by simp [results,Tryz.results67,go_sem, *];try rfl) rfl ?_
  exact ⟨rfl,by exact bel⟩
end Go.Proofs.YtbnadlpkbbdgjaaGreatDoor



namespace Go.Proofs.YtbnadlpkbbdgjaaGreatDoor
open Go.RowKit

theorem nb_some {c s : Nat} {down : Bool} {Y : Nat} (h : upK (unit c s) down 19 = (Y,true)) : NbC (nb c s down) = FitC Y (10 ^ 18) ∧ NbS (nb c s down) = FitS Y (10 ^ 18) ∧ NbE (nb c s down) = FitE Y (10 ^ 18):=by
 unfold nb;rw [K19_eq,h];exact nb_yes Y
theorem nb_none {c s : Nat} {down : Bool} (h : upK (unit c s) down 19 = (0,false)) : NbC (nb c s down) = 0 ∧ NbS (nb c s down) = 0 ∧ NbE (nb c s down) = 3:=by
 unfold nb;rw [K19_eq,h];exact nb_no 0
theorem fit_parts {Y : Nat} (h : Rep Y) : ∃ C S,FitC Y (10 ^ 18) = C ∧ FitS Y (10 ^ 18) = S ∧ FitE Y (10 ^ 18) = 0 ∧ C < B34 ∧ S ≤ 18 ∧ unit C S = Y ∧ (C = 0 → S = 0) ∧ (S = 0 ∨ C % 10 ≠ 0):=by
 obtain ⟨e1,e2⟩:=fit_rep h
 obtain ⟨f1,f2,f3,f4⟩:=fit_form false Y (10 ^ 18)
 exact ⟨_,_,rfl,rfl,e1,f1,f2,e2,fun h => (f3 h).2,f4⟩
theorem form_of {b : Bool} {c s : Nat} (h1 : c < B34) (h2 : s ≤ 18) (h3 : c = 0 → s = 0) (h4 : s = 0 ∨ c % 10 ≠ 0) : dform (sg b c) c s = true :=
 (dform_iff _ _ _).2 ⟨s,rfl,h1,h2,fun h => ⟨by rw [h,sg_zero],h3 h⟩,h4⟩
end Go.Proofs.YtbnadlpkbbdgjaaGreatDoor



namespace Go.Proofs.YtbnadlpkbbdgjaaGreatDoor

def isDs (l : List UInt8) : Bool:=decide (l ≠ []) && l.all isD
def rt0 (l : List UInt8) : List UInt8:=Lib.trimRightB l 48
def lt0 (l : List UInt8) : List UInt8:=Lib.trimLeftB l 48
theorem dvb_lt {l : List UInt8} (h : l.all isD = true) : ∀ a k,a < 10 ^ k → dvb l a < 10 ^ (k + l.length):=by
 induction l with
 | nil => intro a k ha;simpa [dvb] using ha
 | cons d r ih =>
  intro a k ha
  rw [List.all_cons,Bool.and_eq_true] at h
  have hd : 48 ≤ d.toNat ∧ d.toNat ≤ 57:=by simpa [isD] using h.1
  have:=ih h.2 (a * 10 + (d.toNat - 48)) (k + 1) (by rw [Nat.pow_succ];omega)
  rw [List.length_cons,show k + (r.length + 1) = k + 1 + r.length by omega]
  exact this
theorem lt0_dvb (l : List UInt8) : dvb (lt0 l) 0 = dvb l 0:=by
 unfold lt0 Lib.trimLeftB
 induction l with
 | nil => rfl
 | cons d r ih =>
  rw [List.dropWhile_cons]
  split
  ·rename_i h
   have e : d = 48:=by simpa using h
   subst e
   exact ih
  ·rfl
theorem lt0_head (l : List UInt8) : ∀ c r,lt0 l = c :: r → c ≠ 48:=by
 intro c r h
 have:=List.head?_dropWhile_not (· == (48 : UInt8)) l
 unfold lt0 Lib.trimLeftB at h
 rw [h] at this
 simpa using this
theorem lt0_all {l : List UInt8} (h : l.all isD = true) : (lt0 l).all isD = true:=by
 rw [List.all_eq_true] at h ⊢
 intro c hc
 exact h c ((List.dropWhile_sublist _).subset hc)
theorem rt0_all {l : List UInt8} (h : l.all isD = true) : (rt0 l).all isD = true:=by
 rw [List.all_eq_true] at h ⊢
 intro c hc
 unfold rt0 Lib.trimRightB at hc
 rw [List.mem_reverse] at hc
 exact h c (List.mem_reverse.1 ((List.dropWhile_sublist _).subset hc))
theorem rt0_len (l : List UInt8) : (rt0 l).length ≤ l.length:=by
 unfold rt0 Lib.trimRightB
 rw [List.length_reverse]
 have:=(List.dropWhile_sublist (· == (48 : UInt8)) (l:=l.reverse)).length_le
 simpa using this
theorem lt0_len (l : List UInt8) : (lt0 l).length ≤ l.length:=(List.dropWhile_sublist _).length_le
theorem lt0_low {l : List UInt8} (h : l.all isD = true) (hn : lt0 l ≠ []) : 10 ^ ((lt0 l).length - 1) ≤ dvb l 0:=by
 rw [← lt0_dvb]
 cases e : lt0 l with
 | nil => exact absurd e hn
 | cons c r =>
  have h1:=lt0_head l c r e
  have h2:=lt0_all h
  rw [e,List.all_cons,Bool.and_eq_true] at h2
  have hd : 48 ≤ c.toNat ∧ c.toNat ≤ 57:=by simpa [isD] using h2.1
  have h3 : c.toNat ≠ 48:=fun hh => h1 (UInt8.toNat_inj.1 hh)
  have:=dvb_low r (0 * 10 + (c.toNat - 48)) 0 (by simp;omega)
  rw [Nat.zero_add] at this
  simpa [dvb] using this
theorem lt0_up {l : List UInt8} (h : l.all isD = true) : dvb l 0 < 10 ^ (lt0 l).length:=by
 rw [← lt0_dvb]
 have:=dvb_lt (lt0_all h) 0 0 (by simp)
 rwa [Nat.zero_add] at this
theorem lt0_nil {l : List UInt8} (h : l.all isD = true) : lt0 l = [] ↔ dvb l 0 = 0:=by
 constructor
 ·intro e
  rw [← lt0_dvb,e];rfl
 ·intro e
  rcases Classical.em (lt0 l = []) with h1 | h1
  ·exact h1
  ·have:=lt0_low h h1
   have h2 : 0 < 10 ^ ((lt0 l).length - 1):=Nat.pow_pos (by decide)
   omega
theorem lt0_34 {l : List UInt8} (h : l.all isD = true) : (lt0 l).length ≤ 34 ↔ dvb l 0 < B34:=by
 unfold B34
 constructor
 ·intro hl
  exact Nat.lt_of_lt_of_le (lt0_up h) (Nat.pow_le_pow_right (by decide) hl)
 ·intro hl
  rcases Nat.lt_or_ge 34 (lt0 l).length with h1 | h1
  ·have hn : lt0 l ≠ []:=by intro e;rw [e] at h1;simp at h1
   have h2:=lt0_low h hn
   have h3 : 10 ^ 34 ≤ 10 ^ ((lt0 l).length - 1):=Nat.pow_le_pow_right (by decide) (by omega)
   omega
  ·exact h1
theorem lt0_ok {l : List UInt8} (h : l.all isD = true) (hn : lt0 l ≠ []) : okB (lt0 l) = true:=by
 unfold okB
 rw [lt0_all h,Bool.and_true,Bool.and_eq_true]
 refine ⟨by simpa using hn, ?_⟩
 rw [Bool.or_eq_true]
 right
 cases e : lt0 l with
 | nil => exact absurd e hn
 | cons c r =>
  have h1:=lt0_head l c r e
  have h3 : c.toNat ≠ 48:=fun hh => h1 (UInt8.toNat_inj.1 hh)
  simpa using h3
/-- what Parse comes to: its sign, the digits ahead of the point and behind it, is there a point? -/
def parS (neg : Bool) (a b : List UInt8) (dot : Bool) : Bool × Nat × Nat × Int :=
 if isDs a = true ∧ ¬ (1 < a.length ∧ (a.headD 0).toNat = 48) ∧ (dot = true → isDs b = true) then
  if dvb (a ++ rt0 b) 0 = 0 then (false,0,0,if neg = true then 5 else 0)
  else if 18 < (rt0 b).length ∨ ¬ dvb (a ++ rt0 b) 0 < B34 then (false,0,0,3)
  else (neg,dvb (a ++ rt0 b) 0,(rt0 b).length,0)
 else (false,0,0,5)
def ahead (l : List UInt8) : List UInt8:=l.takeWhile (· != 46)
def behind (l : List UInt8) : List UInt8:=(l.dropWhile (· != 46)).drop 1
def hasDot (l : List UInt8) : Bool:=l.contains 46
def minus1 (l : List UInt8) : Bool:=l.head? == some 45
def past (l : List UInt8) : List UInt8:=if minus1 l = true then l.drop 1 else l
def parD (l : List UInt8) : Bool × Nat × Nat × Int:=parS (minus1 l) (ahead (past l)) (behind (past l)) (hasDot (past l))
end Go.Proofs.YtbnadlpkbbdgjaaGreatDoor



namespace Go.Proofs.YtbnadlpkbbdgjaaGreatDoor
open Go.RowKit

/-- what reading a text answers -/
def rdN (l : List UInt8) : Nat:=fitW (dvb l 0)
def rdE (l : List UInt8) : Int:=over (dvb l 0)
theorem okB_ne {l : List UInt8} (h : okB l = true) : l ≠ []:=by
 unfold okB at h
 simp only [Bool.and_eq_true,decide_eq_true_eq] at h
 exact h.1.1
theorem okB_lead {l : List UInt8} (h : okB l = true) : l.length ≤ 1 ∨ (l.headD 0).toNat ≠ 48:=by
 unfold okB at h
 simp only [Bool.and_eq_true,Bool.or_eq_true,decide_eq_true_eq] at h
 exact h.1.2
theorem okB_dig {l : List UInt8} (h : okB l = true) {j : Nat} (hj : j < l.length) : 48 ≤ l[j].toNat ∧ l[j].toNat ≤ 57:=by
 unfold okB at h
 simp only [Bool.and_eq_true,List.all_eq_true] at h
 have:=h.2 l[j] (List.getElem_mem hj)
 simpa [isD] using this
theorem head_data (s : ByteArray) (h : 0 < s.size) : s.data.toList.headD 0 = s[0]:=by
 have h' : 0 < s.data.toList.length:=by simpa using h
 have key : ∀ (l : List UInt8) (hl : 0 < l.length),l.headD 0 = l[0]:=by
  intro l hl
  cases l with
  | nil => cases hl
  | cons a r => rfl
 rw [key _ h'];rfl
theorem Bk.grown {w w' : World} {g : Nat} {t : TypeId} {cs : List Value} {row : Option Nat} (h : Bk w g t cs) (hb : w.grownBy w' row) (hg : some g ≠ row) : Bk w' g t cs:=(hb.block g h.lt hg).trans h
end Go.Proofs.YtbnadlpkbbdgjaaGreatDoor

