/- What this law reaches beyond the common contracts, part 3. -/
import Derived.IntWalk
import Derived.Deep.Cut
import Derived.Deep.CutRange
import Derived.Test.YtkjecoanlppeaaaGreatDoorCards
import Derived.Test.YtkjecoanlppeaaaGreatDoorTie
import Derived.Deep.DeepHandedRow
import Derived.LaidMore
import Derived.Lay
import Derived.SevenTiedAt
import Derived.Test.YtkjecoanlppeaaaGreatDoorM5
import Derived.Test.YtkjecoanlppeaaaGreatDoorXDx2
set_option linter.unusedSimpArgs false
set_option linter.unusedVariables false


namespace Go.Proofs.YtkjecoanlppeaaaGreatDoor
open Go.RowKit

theorem mem_vg {l : List VD} {x : VD} (h : x ∈ l) : ∃ t,t < l.length ∧ vg l t = x:=by
 obtain ⟨t,ht,rfl⟩:=List.getElem_of_mem h
 exact ⟨t,ht,vg_get ht⟩
/-- rows of rows behind a step of the call's own: their values lie in the memory of w -/
def LlsX (w wx : World) (R : Value) (rs : List (List VD)) : Prop:=∃ A C,R = .slice A rs.length C ∧ (rs.length ≤ 1048576 ∧ rs.length ≤ C ∧ C ≤ maxLen) ∧ ∀ t,t < rs.length → ∃ b o B D,A = some ⟨b,o,none⟩ ∧ wx.cell? ⟨b,o + t,none⟩ = some (.slice B (lg rs t).length D) ∧ Vls (RV w) w (.slice B (lg rs t).length D) (lg rs t)
theorem LlsX.is {w wx : World} {R : Value} {rs : List (List VD)} (h : LlsX w wx R rs) : ∃ A C,R = .slice A rs.length C:=by
 obtain ⟨A,C,h1,_⟩:=h
 exact ⟨A,C,h1⟩
theorem LlsX.at {w wx : World} {rs : List (List VD)} {A : Option Addr} {n C : Nat} (h : LlsX w wx (.slice A n C) rs) {t : Nat} (ht : t < rs.length) : ∃ b o B D,A = some ⟨b,o,none⟩ ∧ wx.cell? ⟨b,o + t,none⟩ = some (.slice B (lg rs t).length D) ∧ Vls (RV w) w (.slice B (lg rs t).length D) (lg rs t):=by
 obtain ⟨A',C',h1,h2,h3⟩:=h
 injection h1 with e1 e2 e3
 subst e1
 exact h3 t ht
end Go.Proofs.YtkjecoanlppeaaaGreatDoor



namespace Go.Proofs.YtkjecoanlppeaaaGreatDoor
open Go.RowKit

theorem endD_err {e : Int} (h : e ≠ 0) (d : VD) : endD (d,e) = (VD.zero,e):=by unfold endD;rw [if_pos (by exact h)]
theorem endD_ok {d : VD} (h : chkV d = 0) : endD (d,0) = (d,0):=by unfold endD;rw [if_neg (by simp),if_neg (by simp [h])]
/-- what Decide answers to what is in form -/
theorem decAll_form {p : Int} (h1 : 1 ≤ p) (h11 : p ≤ 11) {names : List (List UInt8)} {order rows : List (List VD)} {other : List VD} (hf : formP p names order rows other = true) : decAll p names order rows other = endD (decR p names order (rowsD rows other)):=by
 have hpb : policyB p = true:=by unfold policyB;rw [decide_eq_true h1,decide_eq_true h11];rfl
 unfold decAll
 rw [if_neg (by rw [hpb];decide),if_neg (by rw [hf];decide)]
theorem decAll_bad {p : Int} (h1 : 1 ≤ p) (h11 : p ≤ 11) {names : List (List UInt8)} {order rows : List (List VD)} {other : List VD} (hf : formP p names order rows other = false) : decAll p names order rows other = (VD.zero,2):=by
 have hpb : policyB p = true:=by unfold policyB;rw [decide_eq_true h1,decide_eq_true h11];rfl
 unfold decAll
 rw [if_neg (by rw [hpb];decide),if_pos hf]
end Go.Proofs.YtkjecoanlppeaaaGreatDoor



namespace Go.Proofs.YtkjecoanlppeaaaGreatDoor
open Go.RowKit

set_option maxHeartbeats 400000 in
theorem truth_any (b : Bool) (w : World) : Calls Tryz.prog 37 #[.bool b] w fun e w' => e = .returned (.agg #[.int .i64 1,.bool b,.bool false,.int .u64 0,.int .u64 0,.int .i64 0,.string ⟨#[]⟩,.int .i64 0,.slice none 0 0,.slice none 0 0]) ∧ Below w.heap.size w w':=by
 go_enter Tryz.func37,Tryz.ntmps37
 go_wp2_with fail
 refine bodyPost_ret (by simp [results,Tryz.results37,go_sem, *];try rfl) rfl ?_
 exact ⟨rfl,by (repeat' first|(with_reducible first|exact blR _ _|assumption|refine blD ?_|refine blN ?_ _)|((with_reducible first|refine blA ?_ ?_ _|refine blS ?_ ?_ _|refine blT (by assumption) ?_ ?_);focus (go_size;done)))⟩
def nmD (b : Bool) (c s : Nat) : VD:=.mk (numS b c (s : Int)) [] []
theorem nmD_chk {b : Bool} {c s : Nat} (h : DForm b c s) : chkV (nmD b c s) = 0:=by
 have hs : (nmD b c s).size = 1:=by unfold nmD;rw [VD.size];simp [sizes]
 have hd : (nmD b c s).deep = 1:=by unfold nmD;rw [VD.deep];simp [deeps]
 have ho : okV (nmD b c s) = true:=by
  rw [okV_eq]
  show (ownB (numS b c (s : Int)) 0 [] && oks []) = true
  unfold ownB
  have h1 : bareQ (numS b c (s : Int)) 0 ([] : List (List UInt8)).length ((numS b c (s : Int)).kind = 5 ∨ (numS b c (s : Int)).kind = 6) = true:=bareQ_iff.2 ⟨.inr rfl,.inl rfl,.inr rfl,.inr rfl,.inr rfl,.inr rfl⟩
  rw [h1]
  unfold kindB
  have e : (numS b c (s : Int)).kind = 2:=rfl
  rw [e,if_neg (by decide),if_pos rfl]
  have h2 : dform (numS b c (s : Int)).neg (numS b c (s : Int)).coef (numS b c (s : Int)).sc = true:=dform_of h
  rw [h2]
  rfl
 unfold chkV
 rw [hs,hd,ho,if_neg (by decide),if_neg (by decide),if_pos rfl]
def LessNo (w : World) (e : Ending) (w' : World) : Prop:=e = .returned (.tuple #[.agg #[.int .i64 1,.bool false,.bool false,.int .u64 0,.int .u64 0,.int .i64 0,.string ⟨#[]⟩,.int .i64 0,.slice none 0 0,.slice none 0 0],.int .i64 0]) ∧ Below w.heap.size w w'
set_option maxRecDepth 100000 in
set_option maxHeartbeats 4000000 in
theorem vless_no (b : Bool) (c s : Nat) (b' : Bool) (c' s' : Nat) (A : Option Addr) (C : Nat) (A2 : Option Addr) (C2 : Nat) (B : Option Addr) (D : Nat) (B2 : Option Addr) (D2 : Nat) (w : World) (hT : Tabs w) (hf : DForm b c s) (hf' : DForm b' c' s') (hx : VA w (nmD b c s) A C A2 C2) (hy : VA w (nmD b' c' s') B D B2 D2) (ho : 0 ≤ ordD b (unit c s) b' (unit c' s')) :
  Calls Tryz.prog 21 #[vargs (nmD b c s) A C A2 C2,vargs (nmD b' c' s') B D B2 D2] w (LessNo w):=by
 have hc1:=fun (W : World) (hW : Below w.heap.size w W) (q : Nat) (h1 : At W q 0 ((nmD b c s).s.cs ++ [.slice A (nmD b c s).list.length C,.slice A2 (nmD b c s).names.length C2])) (h2 : At W q 10 ((nmD b' c' s').s.cs ++ [.slice B (nmD b' c' s').list.length D,.slice B2 (nmD b' c' s').names.length D2])) =>
  vchecks_any [nmD b c s,nmD b' c' s'] (.slice (some ⟨q,0,none⟩) 2 2) W (tabs_below hT hW) (vls_two h1 h2 (VA.below hx hW) (VA.below hy hW))
 have hall : allC [nmD b c s,nmD b' c' s'] = true:=by rw [two_all,decide_eq_true (nmD_chk hf),decide_eq_true (nmD_chk hf')];rfl
 simp only [hall] at hc1
 have HCM:=Lib.hid (fun (W : World) => dcmp_ok b c s b' c' s' (dform_of hf) (dform_of hf') hf.1 hf'.1 hf.2.1 hf'.2.1 W)
 have HTR:=Lib.hid (fun (W : World) => truth_any false W)
 obtain ⟨z0,hz0⟩ : ∃ z,z = ordD b (unit c s) b' (unit c' s'):=⟨_,rfl⟩
 rw [← hz0] at ho
 simp only [← hz0] at HCM
 have hlt : decide (z0 < 0) = false:=decide_eq_false (by omega)
 unfold nmD at hc1 ⊢
 unfold VS.cs numS at hc1
 unfold numS vargs vagg
 dsimp only [VD.s,VD.list,VD.names] at hc1 ⊢
 obtain ⟨x1,hx1⟩ : ∃ y,y = wd c 1:=⟨_,rfl⟩
 obtain ⟨x0,hx0⟩ : ∃ y,y = wd c 0:=⟨_,rfl⟩
 obtain ⟨y1,hy1⟩ : ∃ y,y = wd c' 1:=⟨_,rfl⟩
 obtain ⟨y0,hy0⟩ : ∃ y,y = wd c' 0:=⟨_,rfl⟩
 simp only [← hx1,← hx0,← hy1,← hy0] at hc1 HCM ⊢
 have H1:=Lib.hid hc1
 clear hc1 hx hy hf hf' hT hz0 hx1 hx0 hy1 hy0 ho hall
 unfold LessNo
 go_enter Tryz.func21,Tryz.ntmps21
 go_wp2_with (first | (go_at_call 27;(with_reducible refine (H1.out _ (by (repeat' first|(with_reducible first|exact blR _ _|assumption|refine blD ?_|refine blN ?_ _)|((with_reducible first|refine blA ?_ ?_ _|refine blS ?_ ?_ _|refine blT (by assumption) ?_ ?_);focus (go_size;done)))) _ (at_alloc (by go_size) 0 10) (at_alloc (by go_size) 10 10)).mono ?_);rintro _ w2 ⟨z,rfl,hz,hb2⟩;have hb2s:=hb2.size;(try simp only [World.size_alloc] at hb2s);obtain ⟨hb2c,hb2f⟩:=bcell hb2;(try have : w.heap.size < w2.heap.size:=by omega);(try have : w.heap.size + 1 < w2.heap.size:=by omega);(try have : w.heap.size + 1 + 1 < w2.heap.size:=by omega);(try have : w.heap.size + 1 + 1 + 1 < w2.heap.size:=by omega);obtain rfl : z = 0:=hz.2 trivial;clear hz) | ((go_at_call 36;with_reducible refine (HCM.out _).mono ?_);rintro _ w3 ⟨rfl,hb3⟩;have hb3s:=hb3.size;(try simp only [wsA,wsS,wsD,wsN] at hb3s);obtain ⟨hb3c,hb3f⟩:=bcell hb3;(try have : w.heap.size < w3.heap.size:=by omega);(try have : w.heap.size + 1 < w3.heap.size:=by omega);(try have : w.heap.size + 1 + 1 < w3.heap.size:=by omega);(try have : w.heap.size + 1 + 1 + 1 < w3.heap.size:=by omega);(try have : w2.heap.size < w3.heap.size:=by omega);(try have : w2.heap.size + 1 < w3.heap.size:=by omega);(try have : w2.heap.size + 1 + 1 < w3.heap.size:=by omega);(try have : w2.heap.size + 1 + 1 + 1 < w3.heap.size:=by omega)) | (go_at_call 37;(with_reducible refine (HTR.out _).mono ?_);rintro _ w4 ⟨rfl,hb4⟩;have hb4s:=hb4.size;(try have : w.heap.size < w4.heap.size:=by omega);(try have : w.heap.size + 1 < w4.heap.size:=by omega);(try have : w.heap.size + 1 + 1 < w4.heap.size:=by omega);(try have : w.heap.size + 1 + 1 + 1 < w4.heap.size:=by omega);have k1 : Bk w4 (w.heap.size + 1 + 1) 34 zc10:=(by unfold zc10;(repeat (first|(with_reducible assumption)|((with_reducible refine bkW ?_);(first|rfl|(simp only [wsA,wsS,wsD,wsN];done)))|(with_reducible first|refine bkA ?_ _|refine bkD ?_|refine bkN ?_ _)|((with_reducible refine bkF ?_ ?_ _);focus (simp only [];omega))|((with_reducible refine bkB (by assumption) ?_ ?_);focus (go_size;done)))));have mb : Below w.heap.size w w4:=(by (repeat' first|(with_reducible first|exact blR _ _|assumption|refine blD ?_|refine blN ?_ _)|((with_reducible first|refine blA ?_ ?_ _|refine blS ?_ ?_ _|refine blT (by assumption) ?_ ?_);focus (go_size;done))));obtain ⟨⟨z0,z1,z2,z3,z4,z5,z6,z7,z8,z9⟩,zf⟩:=k1.zcd;clear k1 hb4 hb3c hb3f hb2c hb2f))
 refine bodyPost_ret (by simp [results,Tryz.results21,go_sem, *];try rfl) rfl ?_
 exact ⟨rfl,by (repeat' first|(with_reducible first|exact blR _ _|assumption|refine blD ?_|refine blN ?_ _)|((with_reducible first|refine blA ?_ ?_ _|refine blS ?_ ?_ _|refine blT (by assumption) ?_ ?_);focus (go_size;done)))⟩
end Go.Proofs.YtkjecoanlppeaaaGreatDoor



namespace Go.Proofs.YtkjecoanlppeaaaGreatDoor
open Go.RowKit

def vI (b : Bool) (x : Nat) : Int:=if b = true then -(x : Int) else x
theorem ord_vI {an : Bool} {x : Nat} {bn : Bool} {y : Nat} (ha : x = 0 → an = false) (hb : y = 0 → bn = false) : (ordD an x bn y < 0 ↔ vI an x < vI bn y) ∧ (0 < ordD an x bn y ↔ vI bn y < vI an x):=by
 cases an <;> cases bn
 ·show (cmpN x y < 0 ↔ (x : Int) < (y : Int)) ∧ (0 < cmpN x y ↔ (y : Int) < (x : Int))
  unfold cmpN
  split <;> (try split) <;> omega
 ·have : y ≠ 0:=fun h => by have:=hb h;cases this
  show ((1 : Int) < 0 ↔ (x : Int) < -(y : Int)) ∧ ((0 : Int) < 1 ↔ -(y : Int) < (x : Int))
  omega
 ·have : x ≠ 0:=fun h => by have:=ha h;cases this
  show ((-1 : Int) < 0 ↔ -(x : Int) < (y : Int)) ∧ ((0 : Int) < -1 ↔ (y : Int) < -(x : Int))
  omega
 ·show (cmpN y x < 0 ↔ -(x : Int) < -(y : Int)) ∧ (0 < cmpN y x ↔ -(y : Int) < -(x : Int))
  unfold cmpN
  split <;> (try split) <;> omega
theorem unit_zero {b : Bool} {c s : Nat} (h : DForm b c s) (hz : unit c s = 0) : b = false:=by
 unfold unit at hz
 have h10 : 0 < 10 ^ (18 - s):=Nat.pow_pos (by decide)
 rcases Nat.mul_eq_zero.1 hz with hc | hc
 ·exact (h.2.2.1 hc).1
 ·omega
def vD (d : Bool × Nat × Nat) : Int:=vI d.1 (unit d.2.1 d.2.2)
def FD (d : Bool × Nat × Nat) : Prop:=DForm d.1 d.2.1 d.2.2
theorem numO_vD {d : Bool × Nat × Nat} {x : VS} (hd : FD d) (hx : FD (decN x)) : (numO d x < 0 ↔ vD (decN x) < vD d) ∧ (0 < numO d x ↔ vD d < vD (decN x)):=by
 have h:=ord_vI (an:=x.neg) (x:=unit x.coef x.sc.toNat) (bn:=d.1) (y:=unit d.2.1 d.2.2) (fun h => unit_zero hx h) (fun h => unit_zero hd h)
 exact h
/-- least: at most where it began; greatest: at least -/
theorem numGo_least : ∀ (l : List VD) (d : Bool × Nat × Nat),FD d → (∀ x ∈ l,FD (decN x.s)) → ∃ m,numGo 9 d l = (nmD m.1 m.2.1 m.2.2,0) ∧ FD m ∧ vD m ≤ vD d
 | [],d,hd,_ => ⟨d,rfl,hd,Int.le_refl _⟩
 | x :: r,d,hd,h => by
  have hx:=h x (by simp)
  have ho:=numO_vD hd hx
  unfold numGo
  have hs : numStep 9 d x.s = if numO d x.s < 0 then (decN x.s,0) else (d,0):=by
   unfold numStep decN
   rw [if_neg (by decide)]
   by_cases hn : numO d x.s < 0
   ·rw [if_pos (.inl ⟨rfl,hn⟩),if_pos hn]
   ·rw [if_neg (by rintro (⟨_,h⟩ | ⟨h,_⟩);exact hn h;exact absurd h (by decide)),if_neg hn]
  rw [hs]
  by_cases hn : numO d x.s < 0
  ·rw [if_pos hn,if_neg (by simp)]
   obtain ⟨m,h1,h2,h3⟩:=numGo_least r (decN x.s) hx fun y hy => h y (List.mem_cons_of_mem _ hy)
   exact ⟨m,h1,h2,by have:=ho.1.1 hn;omega⟩
  ·rw [if_neg hn,if_neg (by simp)]
   exact numGo_least r d hd fun y hy => h y (List.mem_cons_of_mem _ hy)
theorem numGo_most : ∀ (l : List VD) (d : Bool × Nat × Nat),FD d → (∀ x ∈ l,FD (decN x.s)) → ∃ m,numGo 10 d l = (nmD m.1 m.2.1 m.2.2,0) ∧ FD m ∧ vD d ≤ vD m
 | [],d,hd,_ => ⟨d,rfl,hd,Int.le_refl _⟩
 | x :: r,d,hd,h => by
  have hx:=h x (by simp)
  have ho:=numO_vD hd hx
  unfold numGo
  have hs : numStep 10 d x.s = if 0 < numO d x.s then (decN x.s,0) else (d,0):=by
   unfold numStep decN
   rw [if_neg (by decide)]
   by_cases hn : 0 < numO d x.s
   ·rw [if_pos (.inr ⟨rfl,hn⟩),if_pos hn]
   ·rw [if_neg (by rintro (⟨h,_⟩ | ⟨_,h⟩);exact absurd h (by decide);exact hn h),if_neg hn]
  rw [hs]
  by_cases hn : 0 < numO d x.s
  ·rw [if_pos hn,if_neg (by simp)]
   obtain ⟨m,h1,h2,h3⟩:=numGo_most r (decN x.s) hx fun y hy => h y (List.mem_cons_of_mem _ hy)
   exact ⟨m,h1,h2,by have:=ho.2.1 hn;omega⟩
  ·rw [if_neg hn,if_neg (by simp)]
   exact numGo_most r d hd fun y hy => h y (List.mem_cons_of_mem _ hy)
theorem fitK_err (n d : Nat) : ∀ k,(fitK n d k).2.2 = 0 ∨ (fitK n d k).2.2 = 3
 | 0 => .inr rfl
 | k + 1 => by
  unfold fitK
  split
  ·exact .inl rfl
  ·exact fitK_err n d k
theorem fitE_err (n d : Nat) : FitE n d = 0 ∨ FitE n d = 3:=fitK_err n d _
theorem numGo_sum : ∀ (l : List VD) (d : Bool × Nat × Nat),FD d → (numGo 8 d l = (VD.zero,3)) ∨ ∃ m,numGo 8 d l = (nmD m.1 m.2.1 m.2.2,0) ∧ FD m
 | [],d,hd => .inr ⟨d,rfl,hd⟩
 | x :: r,d,hd => by
  unfold numGo
  have hs : (numStep 8 d x.s).2 = FitE (sumU d x.s) (10 ^ 18):=by unfold numStep;rw [if_pos rfl]
  have hf : FD (numStep 8 d x.s).1:=by unfold numStep;rw [if_pos rfl];exact fit_form _ _ _
  rcases fitE_err (sumU d x.s) (10 ^ 18) with h | h
  ·rw [hs,h,if_neg (by simp)]
   exact numGo_sum r _ hf
  ·rw [hs,h,if_pos (by decide)]
   exact .inl rfl
theorem nd_chk {k : Nat} (h : k ≤ 60) : chkV (nd k) = 0:=by
 have hf : DForm false k 0:=⟨by unfold B34;omega,by omega,fun _ => ⟨rfl,rfl⟩,.inl rfl⟩
 exact nmD_chk hf
/-- what the four answers are -/
inductive Numbers (r : Int → VD × Int) (k : Nat) : Prop where
 | odd : r 9 = (VD.zero,0) → r 10 = (VD.zero,0) → r 8 = (VD.zero,0) → r 11 = (nd k,0) → Numbers r k
 | nums (m q : Bool × Nat × Nat) : r 9 = (nmD m.1 m.2.1 m.2.2,0) → r 10 = (nmD q.1 q.2.1 q.2.2,0) → FD m → FD q → 0 ≤ ordD q.1 (unit q.2.1 q.2.2) m.1 (unit m.2.1 m.2.2) → r 11 = (nd k,0) → (r 8).2 ≠ 2 → ((r 8).2 = 0 ∨ (r 8).2 = 3) → (k = 1 → r 8 = r 9 ∧ r 10 = r 9) → Numbers r k
theorem formP_great {p : Int} (h : 8 ≤ p) (names : List (List UInt8)) (order rows : List (List VD)) (other : List VD) : formP p names order rows other = formP 8 names order rows other:=by
 unfold formP
 rw [decide_eq_true h,decide_eq_true (show (8 : Int) ≤ 8 by decide)]
theorem numbers_plain (names : List (List UInt8)) (order rows : List (List VD)) (other : List VD) :
  (∀ p,8 ≤ p → p ≤ 11 → decAll p names order rows other = (VD.zero,2)) ∨ ((rowsD rows other).length ≤ 60 ∧ Numbers (fun p => decAll p names order rows other) (rowsD rows other).length):=by
 cases hf : formP 8 names order rows other with
 | false => exact .inl fun p h1 h4 => decAll_bad (by omega) h4 (by rw [formP_great h1];exact hf)
 | true =>
  right
  obtain ⟨hin,hn8⟩:=form_in hf
  have hn1:=hn8 (by decide)
  have hD : ∀ p : Int,8 ≤ p → p ≤ 11 → decAll p names order rows other = endD (decR p names order (rowsD rows other)):=fun p h1 h4 => decAll_form (by omega) h4 (by rw [formP_great h1];exact hf)
  obtain ⟨rs,hrs⟩ : ∃ rs,rs = rowsD rows other:=⟨_,rfl⟩
  rw [← hrs] at hin hD ⊢
  refine ⟨hin.r60, ?_⟩
  by_cases h0 : rs.length = 0
  ·have hR : ∀ p : Int,8 ≤ p → p ≤ 11 → decAll p names order rows other = endD (noneD p,0):=fun p h1 h4 => by
    rw [hD p h1 h4]
    unfold decR
    rw [if_pos h0]
   rw [h0]
   refine .odd ?_ ?_ ?_ ?_
   ·show decAll 9 _ _ _ _ = _;rw [hR 9 (by decide) (by decide)];exact endD_ok (by kernel_rfl)
   ·show decAll 10 _ _ _ _ = _;rw [hR 10 (by decide) (by decide)];exact endD_ok (by kernel_rfl)
   ·show decAll 8 _ _ _ _ = _;rw [hR 8 (by decide) (by decide)];exact endD_ok (by kernel_rfl)
   ·show decAll 11 _ _ _ _ = _;rw [hR 11 (by decide) (by decide)];exact endD_ok (by kernel_rfl)
  ·obtain ⟨l,hl⟩ : ∃ l,l = rs.map (wholeD names):=⟨_,rfl⟩
   have hln : l.length = rs.length:=by rw [hl,List.length_map]
   have hck : ∀ t,t < l.length → chkV (vg l t) = 0:=fun t ht => by
    rw [hl,vg_map _ _ (by omega)]
    unfold wholeD
    rw [if_pos hn1]
    exact allC_iff.1 (hin.rc t (by omega)) 0 (by rw [hin.rl t (by omega)];exact hin.n1)
   have hR : ∀ p : Int,8 ≤ p → p ≤ 10 → decAll p names order rows other = endD (numD p l):=fun p h1 h4 => by
    rw [hD p h1 (by omega)]
    unfold decR
    rw [if_neg h0,← hl]
    unfold decD
    rw [if_neg (by omega),if_neg (by omega),if_neg (by omega),if_neg (by omega),if_neg (by omega),if_neg (by omega),if_pos h1]
   have h11 : decAll 11 names order rows other = (nd rs.length,0):=by
    rw [hD 11 (by decide) (by decide)]
    unfold decR
    rw [if_neg h0,← hl]
    unfold decD
    rw [if_neg (by decide),if_neg (by decide),if_neg (by decide),if_neg (by decide),if_neg (by decide),if_pos (by decide),hln]
    exact endD_ok (nd_chk hin.r60)
   cases ha : allNum l with
   | false =>
    have hz : ∀ p : Int,8 ≤ p → p ≤ 10 → decAll p names order rows other = (VD.zero,0):=fun p h1 h4 => by
     rw [hR p h1 h4,numD_odd ha]
     exact endD_ok (by kernel_rfl)
    exact .odd (hz 9 (by decide) (by decide)) (hz 10 (by decide) (by decide)) (hz 8 (by decide) (by decide)) h11
   | true =>
    have hk:=allNum_iff.1 ha
    have hfd : ∀ t,t < l.length → FD (decN (vg l t).s):=fun t ht => decN_form (chk_num (hck t ht) (hk t ht))
    have hd0:=hfd 0 (by omega)
    have htl : ∀ x ∈ l.drop 1,FD (decN x.s):=fun x hx => by
     obtain ⟨t,ht,rfl⟩:=mem_vg (List.mem_of_mem_drop hx)
     exact hfd t ht
    have e9:=hR 9 (by decide) (by decide)
    have e10:=hR 10 (by decide) (by decide)
    have e8:=hR 8 (by decide) (by decide)
    rw [numD_all ha] at e9 e10 e8
    obtain ⟨m,q1,q2,q3⟩:=numGo_least (l.drop 1) (decN (vg l 0).s) hd0 htl
    obtain ⟨q,g1,g2,g3⟩:=numGo_most (l.drop 1) (decN (vg l 0).s) hd0 htl
    rw [q1,endD_ok (nmD_chk q2)] at e9
    rw [g1,endD_ok (nmD_chk g2)] at e10
    have ho : 0 ≤ ordD q.1 (unit q.2.1 q.2.2) m.1 (unit m.2.1 m.2.2):=by
     have h:=ord_vI (an:=q.1) (x:=unit q.2.1 q.2.2) (bn:=m.1) (y:=unit m.2.1 m.2.2) (fun h => unit_zero g2 h) (fun h => unit_zero q2 h)
     have h2 : ¬ vI q.1 (unit q.2.1 q.2.2) < vI m.1 (unit m.2.1 m.2.2):=by
      have : vD m ≤ vD q:=Int.le_trans q3 g3
      unfold vD at this
      omega
     have h3:=mt h.1.1 h2
     omega
    have h8 : (decAll 8 names order rows other).2 ≠ 2 ∧ ((decAll 8 names order rows other).2 = 0 ∨ (decAll 8 names order rows other).2 = 3):=by
     rw [e8]
     rcases numGo_sum (l.drop 1) (decN (vg l 0).s) hd0 with h | ⟨x,h,hx⟩
     ·rw [h,endD_err (by decide)];exact ⟨by decide,.inr rfl⟩
     ·rw [h,endD_ok (nmD_chk hx)];exact ⟨by show (0 : Int) ≠ 2;decide,.inl rfl⟩
    refine .nums m q e9 e10 q2 g2 ho h11 h8.1 h8.2 fun h1 => ?_
    have hdr : l.drop 1 = []:=List.drop_of_length_le (by omega)
    have s8 : decAll 8 names order rows other = endD (numGo 8 (decN (vg l 0).s) []):=by rw [e8,hdr]
    have s9 : decAll 9 names order rows other = endD (numGo 9 (decN (vg l 0).s) []):=by rw [hR 9 (by decide) (by decide),numD_all ha,hdr]
    have s10 : decAll 10 names order rows other = endD (numGo 10 (decN (vg l 0).s) []):=by rw [hR 10 (by decide) (by decide),numD_all ha,hdr]
    show decAll 8 _ _ _ _ = decAll 9 _ _ _ _ ∧ decAll 10 _ _ _ _ = decAll 9 _ _ _ _
    rw [s8,s9,s10]
    exact ⟨rfl,rfl⟩
end Go.Proofs.YtkjecoanlppeaaaGreatDoor



namespace Go.Proofs.YtkjecoanlppeaaaGreatDoor
open Go.RowKit
open Go.ChangeShapes Go.WideShapes Go.ChangeAt
open Go.ChangeMaps (open_string shut_string)

theorem lls_of {P : Nat → List VD → Prop} : ∀ n,(∀ i,i < n → ∃ l,P i l) → ∃ ls : List (List VD),ls.length = n ∧ ∀ i,i < n → P i (lg ls i)
 | 0,_ => ⟨[],rfl,fun i hi => absurd hi (Nat.not_lt_zero _)⟩
 | n + 1,h => by
  obtain ⟨l,h1,h2⟩:=lls_of (P:=P) n (fun i hi => h i (by omega))
  obtain ⟨d,h4⟩:=h n (by omega)
  refine ⟨l ++ [d],by rw [List.length_append,h1];rfl,fun i hi => ?_⟩
  unfold lg
  rcases Nat.lt_or_ge i n with h' | h'
  ·rw [List.getD_eq_getElem?_getD,List.getElem?_append_left (by omega)]
   have:=h2 i h'
   unfold lg at this
   rwa [List.getD_eq_getElem?_getD] at this
  ·obtain rfl : i = n:=by omega
   rw [List.getD_eq_getElem?_getD,List.getElem?_append_right (by omega),h1,Nat.sub_self]
   exact h4
section
variable {H : Type} {enc : TypeId × Value → H} {W : World} {b0 : Nat} {sp : Nat → Bool} {held : Bool}
set_option maxRecDepth 100000 in
set_option maxHeartbeats 1000000 in
theorem open_vls {fuel : Nat} {c : Value} {x : DataW H × List MemPlace} (h : DataW.trod enc Tryz.prog W b0 sp held fuel 24 [c] = some x) (hN2 : Rows.uptoBulk x.1 ≤ 1048576) :
  ∃ A C l,c = .slice A l.length C ∧ Vls (RV W) W c l ∧ sizes l ≤ Rows.uptoBulk x.1:=by
 have n6 : Tryz.prog.cellsOf 34 = 10:=by kernel_rfl
 rcases Deep.open_slice Tryz.underlying24 h with ⟨hc,rfl⟩ | ⟨a,len,cap,m,n',D,Pl,hc,_,hl,hm,hmm,rfl,hxs⟩
 ·injection hc with hc
  subst hc
  exact ⟨none,0,[],rfl,⟨none,0,rfl,⟨by simp,by simp,by unfold maxLen;omega⟩,fun r hr => absurd hr (by simp)⟩,by simp [sizes]⟩
 ·injection hc with hc
  subst hc
  rw [n6] at hxs
  have hle : len ≤ m:=by rw [hmm];split <;> omega
  simp only [Rows.uptoBulk] at hN2 ⊢
  rw [bulk_range] at hN2 ⊢
  have hlen2 : len ≤ 1048576:=by
   have:=sum_pos (fun i => Rows.uptoBulk (D i)) (fun i => bulk_pos _) len
   omega
  obtain ⟨b,o,spot⟩:=a
  obtain ⟨l,h1,h2,h3⟩:=vds_of (P:=fun i vd => spot = none ∧ ∃ A1 C1 A2 C2,At W b (o + i * 10) (vd.s.cs ++ [.slice A1 vd.list.length C1,.slice A2 vd.names.length C2]) ∧ RV W (.slice A1 vd.list.length C1) (.slice A2 vd.names.length C2) vd) (f:=fun i => Rows.uptoBulk (D i)) len (fun i hi => by
   obtain ⟨cs',q1,q2⟩:=hxs i (by omega)
   have hbi:=sum_mem (fun i => Rows.uptoBulk (D i)) len i hi
   obtain ⟨vd,A1,C1,A3,C3,e,hrv,hs⟩:=open_cells (Rows.uptoBulk (D i)) n' cs' (D i,Pl i) (Nat.le_refl _) (by omega) q2
   obtain ⟨_,hl10,hat⟩:=World.cells?_some q1
   have hspot : spot = none:=by
    obtain ⟨cs0,p1,_⟩:=hxs 0 (by omega)
    obtain ⟨_,hl0,hat0⟩:=World.cells?_some p1
    have h0:=hat0 0 (by omega)
    rw [List.getElem?_eq_getElem (by omega)] at h0
    simpa [Addr.add] using World.cell?_spot h0
   subst hspot
   refine ⟨vd,⟨rfl,A1,C1,A3,C3,fun j hj => ?_,hrv⟩,hs⟩
   rw [← e] at hj ⊢
   rw [← hat j (by omega)]
   congr 1
   rw [show ((⟨b,o,none⟩ : Addr).add (i * 10)) = ⟨b,o + i * 10,none⟩ from add_plain ..,show ((⟨b,o + i * 10,none⟩ : Addr).add j) = ⟨b,o + i * 10 + j,none⟩ from add_plain ..])
  refine ⟨some ⟨b,o,spot⟩,cap,l,by rw [h1],⟨some ⟨b,o,spot⟩,cap,by rw [h1],⟨by omega,by omega,by unfold maxLen at hm ⊢;omega⟩,fun r hr => ?_⟩,by omega⟩
  obtain ⟨q0,A1,C1,A3,C3,q1,q2⟩:=h2 r (by omega)
  subst q0
  exact ⟨b,o,A1,C1,A3,C3,rfl,q1,q2⟩
set_option maxRecDepth 100000 in
theorem open_lls {fuel : Nat} {c : Value} {x : DataW H × List MemPlace} (h : DataW.trod enc Tryz.prog W b0 sp held fuel 23 [c] = some x) (hb : Rows.uptoBulk x.1 ≤ 1048576) :
  ∃ A C ls,c = .slice A ls.length C ∧ Lls W c ls ∧ ∀ t,t < ls.length → SmallL (lg ls t):=by
 rcases Deep.open_slice1 Tryz.underlying23 (by kernel_rfl) h with ⟨hc,rfl⟩ | ⟨a,len,cap,m,n,V,D,Pl,hc,_,hl,hm,hmm,rfl,hx⟩
 ·injection hc with hc
  subst hc
  exact ⟨none,0,[],rfl,⟨none,0,rfl,⟨by simp,by simp,by unfold maxLen;omega⟩,fun r hr => absurd hr (by simp)⟩,fun t ht => absurd ht (by simp)⟩
 ·injection hc with hc
  subst hc
  have hle : len ≤ m:=by rw [hmm];split <;> omega
  simp only [Rows.uptoBulk] at hb
  rw [bulk_range] at hb
  have hlen : len ≤ 1048576:=by
   have:=sum_pos (fun i => Rows.uptoBulk (D i)) (fun i => bulk_pos _) len
   omega
  obtain ⟨b,o,spot⟩:=a
  obtain ⟨ls,h1,h2⟩:=lls_of (P:=fun i l => spot = none ∧ (∃ B E,W.cell? ⟨b,o + i,none⟩ = some (.slice B l.length E) ∧ Vls (RV W) W (.slice B l.length E) l) ∧ SmallL l) len (fun i hi => by
   obtain ⟨h3,h4⟩:=hx i (by omega)
   have hbi:=sum_mem (fun i => Rows.uptoBulk (D i)) len i hi
   obtain ⟨B,E,l,e,hv,hs⟩:=open_vls h4 (by dsimp only;omega)
   have hspot : spot = none:=by simpa [Addr.add] using World.cell?_spot (hx 0 (by omega)).1
   subst hspot
   dsimp only at hs
   rw [e] at hv
   refine ⟨l,rfl,⟨B,E, ?_,hv⟩,smallL_of (by omega)⟩
   rw [← add_plain,h3,e])
  refine ⟨some ⟨b,o,spot⟩,cap,ls,by rw [h1],⟨some ⟨b,o,spot⟩,cap,by rw [h1],⟨by omega,by omega,by unfold maxLen at hm ⊢;omega⟩,fun r hr => ?_⟩,fun t ht => (h2 t (by omega)).2.2⟩
  obtain ⟨q0,⟨B,E,q1,q2⟩,_⟩:=h2 r (by omega)
  subst q0
  exact ⟨b,o,B,E,rfl,q1,q2⟩
end
set_option maxRecDepth 100000 in
set_option maxHeartbeats 1000000 in
theorem ldecide_any (p : Int) (names : List (List UInt8)) (order rows : List (List VD)) (other : List VD) (N O R V : Value) (w : World) (hT : Tabs w) (hn : Nms w N names) (ho : Lls w O order) (hr : Lls w R rows) (hv : Vls (RV w) w V other) :
  Calls Tryz.prog 11 #[.int .i64 p,.agg #[N,O,R,V]] w (RetX 0 w.heap.size (decAll p names order rows other) w):=by
 have hdc:=fun (W : World) (hW : Below w.heap.size w W) => hdecide_any p names order rows other N O R V W (tabs_below hT hW) (hn.below hW) (ho.below hW) (hr.below hW) (hv.kept hW)
 obtain ⟨Z,hZ⟩ : ∃ Z,Z = decAll p names order rows other:=⟨_,rfl⟩
 rw [← hZ]
 simp only [← hZ] at hdc
 unfold RetX at hdc
 obtain ⟨d,er⟩:=Z
 dsimp only at hdc
 have HDC:=Lib.hid hdc
 obtain ⟨NA,NC,rfl,_⟩:=hn.is
 obtain ⟨OA,OC,rfl,_⟩:=ho.is
 obtain ⟨RA,RC,rfl,_⟩:=hr.is
 obtain ⟨VA0,VC0,rfl,_⟩:=hv.is
 clear hdc hT hn ho hr hv hZ
 go_enter Tryz.func11,Tryz.ntmps11
 go_wp2_with (go_at_call 22;(with_reducible refine (HDC.out _ (by (repeat' first|(with_reducible first|exact blR _ _|assumption|refine blD ?_|refine blN ?_ _)|((with_reducible first|refine blA ?_ ?_ _|refine blS ?_ ?_ _|refine blT (by assumption) ?_ ?_);focus (go_size;done))))).mono ?_);rintro _ w3 ⟨VA,VC,VA2,VC2,rfl,hvb,hb3⟩;have HVB:=Lib.hid hvb;clear hvb;have hb3s:=hb3.size;(try simp only [World.size_alloc] at hb3s);(try have : w.heap.size < w3.heap.size:=by omega);(try have : w.heap.size + 1 < w3.heap.size:=by omega);(try have : w.heap.size + 1 + 1 < w3.heap.size:=by omega);(try have : w.heap.size + 1 + 1 + 1 < w3.heap.size:=by omega);have k1 : Bk w3 (w.heap.size + 1) 34 zc10:=(by unfold zc10;(repeat (first|(with_reducible assumption)|((with_reducible refine bkW ?_);(first|rfl|(simp only [wsA,wsS,wsD,wsN];done)))|(with_reducible first|refine bkA ?_ _|refine bkD ?_|refine bkN ?_ _)|((with_reducible refine bkF ?_ ?_ _);focus (simp only [];omega))|((with_reducible refine bkB (by assumption) ?_ ?_);focus (go_size;done)))));have mb : Below w.heap.size w w3:=(by (repeat' first|(with_reducible first|exact blR _ _|assumption|refine blD ?_|refine blN ?_ _)|((with_reducible first|refine blA ?_ ?_ _|refine blS ?_ ?_ _|refine blT (by assumption) ?_ ?_);focus (go_size;done))));obtain ⟨⟨z0,z1,z2,z3,z4,z5,z6,z7,z8,z9⟩,zf⟩:=k1.zcd;clear k1 hb3)
 refine bodyPost_ret (by simp [results,Tryz.results11,go_sem, *];try rfl) rfl ?_
 refine ⟨VA,VC,VA2,VC2,rfl,fun W' hW' => HVB.out _ (fun b hb => (hW' b (by simp only [World.size_setCell];simp only [World.size_alloc] at hb;omega)).trans ?_),by (repeat' first|(with_reducible first|exact blR _ _|assumption|refine blD ?_|refine blN ?_ _)|((with_reducible first|refine blA ?_ ?_ _|refine blS ?_ ?_ _|refine blT (by assumption) ?_ ?_);focus (go_size;done)))⟩
 simp only [World.size_alloc] at hb
 repeat rw [Below.heap_setCell _ _ _ _ (by show b ≠ w.heap.size + 1;omega)]
end Go.Proofs.YtkjecoanlppeaaaGreatDoor



namespace Go.Proofs.YtkjecoanlppeaaaGreatDoor
open Go.RowKit

/-- the law's same -/
theorem same_two (x y : VD) (A : Option Addr) (C : Nat) (A2 : Option Addr) (C2 : Nat) (B : Option Addr) (D : Nat) (B2 : Option Addr) (D2 : Nat) (W : World) (hx : VA W x A C A2 C2) (hy : VA W y B D B2 D2) (hs : x.size ≤ 1000) (hs2 : y.size ≤ 1000) :
  Calls Tryz.prog 12 #[vargs x A C A2 C2,vargs y B D B2 D2] W fun e w' => e = .returned (.bool (sameB x y)) ∧ Below W.heap.size W w':=by
 have h:=lsame_any x y A C A2 C2 B D B2 D2 W hx hy (by omega) (by omega)
 rw [decide_eq_true hs,decide_eq_true hs2,Bool.true_and,Bool.true_and] at h
 exact h
theorem same_self (x : VD) (A : Option Addr) (C : Nat) (A2 : Option Addr) (C2 : Nat) (B : Option Addr) (D : Nat) (B2 : Option Addr) (D2 : Nat) (W : World) (hx : VA W x A C A2 C2) (hy : VA W x B D B2 D2) (hs : x.size ≤ 1000) :
  Calls Tryz.prog 12 #[vargs x A C A2 C2,vargs x B D B2 D2] W fun e w' => e = .returned (.bool true) ∧ Below W.heap.size W w':=by
 have h:=same_two x x A C A2 C2 B D B2 D2 W hx hy hs hs
 rw [sameB_self] at h
 exact h
end Go.Proofs.YtkjecoanlppeaaaGreatDoor



namespace Go.Proofs.YtkjecoanlppeaaaGreatDoor
open Go.RowKit

/-- what the law's Decide answers in a world: a value and an error -/
def LDec (p : Int) (d : VD) (e : Int) (T : Value) (w : World) : Prop:=∀ W : World,Below w.heap.size w W → Calls Tryz.prog 11 #[.int .i64 p,T] W fun x w' => ∃ A C A2 C2,x = .returned (.tuple #[vargs d A C A2 C2,.int .i64 e]) ∧ VB 0 W.heap.size w'.heap.size w' d A C A2 C2 ∧ Below W.heap.size W w'
theorem ldec_of (p : Int) {names : List (List UInt8)} {order rows : List (List VD)} {other : List VD} {N O R V : Value} {w : World} (hT : Tabs w) (hn : Nms w N names) (ho : Lls w O order) (hr : Lls w R rows) (hv : Vls (RV w) w V other) {d : VD} {e : Int} (h : decAll p names order rows other = (d,e)) : LDec p d e (.agg #[N,O,R,V]) w:=fun W hW => by
 have k:=ldecide_any p names order rows other N O R V W (tabs_below hT hW) (hn.below hW) (ho.below hW) (hr.below hW) (hv.kept hW)
 rw [h] at k
 exact k
end Go.Proofs.YtkjecoanlppeaaaGreatDoor



namespace Go.Proofs.YtkjecoanlppeaaaGreatDoor
open Go.RowKit

theorem take_litD {P : Program} {ops : Array Oper} {Q : Exit → Act → World → Prop} {md : Region.Mode} {S : World → Prop} {i : Nat} {oi : Oper} {v : Value} {fuel : Nat} {listed : Array Bool} {a : Act} {w : World} (hi : ops[i]? = some oi)
  (hs : Region.noSelect ops = true) (hf : Region.free md ops listed i = true) (hr : (Region.ready md ops listed).contains i = true)
  (hQ : ∀ c a w,Q (.panic c) (a.put oi.dst v) w → Q (.panic c) a w) (hy : YieldsIf P ops S oi v a) (hS : S w)
  (h : wpAnyH P md ops Q S fuel (listed.setIfInBounds i true) (a.put oi.dst v) w) : wpAnyH P md ops Q S (fuel + 1) listed a w:=wpAnyH_take hi hs hf hr hQ hy hS h
/-- what the law's Decide answers in a world: a value, as it is written, and an error -/
def LDecV (p : Int) (V : Option Addr → Nat → Option Addr → Nat → Value) (d : VD) (e : Int) (T : Value) (w : World) : Prop:=∀ W : World,Below w.heap.size w W → Calls Tryz.prog 11 #[.int .i64 p,T] W fun x w' => ∃ A C A2 C2,x = .returned (.tuple #[V A C A2 C2,.int .i64 e]) ∧ VB 0 W.heap.size w'.heap.size w' d A C A2 C2 ∧ Below W.heap.size W w'
theorem LDec.lit {p : Int} {d : VD} {e : Int} {T : Value} {w : World} (h : LDec p d e T w) (V : Option Addr → Nat → Option Addr → Nat → Value) (hV : ∀ A C A2 C2,vargs d A C A2 C2 = V A C A2 C2) : LDecV p V d e T w:=fun W hW => (h W hW).mono fun _ _ ⟨A,C,A2,C2,e1,h2,h3⟩ => ⟨A,C,A2,C2,by rw [e1,hV],h2,h3⟩
theorem wd_high {k : Nat} (h : k ≤ 60) : wd k 1 = 0:=by rw [wd1];omega
theorem wd_low {k : Nat} (h : k ≤ 60) : wd k 0 = (k : Int):=by rw [wd0];omega
@[reducible] def zV (A : Option Addr) (C : Nat) (A2 : Option Addr) (C2 : Nat) : Value:=.agg #[.int .i64 0,.bool false,.bool false,.int .u64 0,.int .u64 0,.int .i64 0,.string ⟨#[]⟩,.int .i64 0,.slice A 0 C,.slice A2 0 C2]
@[reducible] def nV (b : Bool) (x1 x0 s : Int) (A : Option Addr) (C : Nat) (A2 : Option Addr) (C2 : Nat) : Value:=.agg #[.int .i64 2,.bool false,.bool b,.int .u64 x1,.int .u64 x0,.int .i64 s,.string ⟨#[]⟩,.int .i64 0,.slice A 0 C,.slice A2 0 C2]
theorem nm_vargs (b : Bool) (c s : Nat) (A : Option Addr) (C : Nat) (A2 : Option Addr) (C2 : Nat) : vargs (nmD b c s) A C A2 C2 = nV b (wd c 1) (wd c 0) s A C A2 C2:=rfl
theorem nd_vargsK {k : Nat} (h : k ≤ 60) (A : Option Addr) (C : Nat) (A2 : Option Addr) (C2 : Nat) : vargs (nd k) A C A2 C2 = nV false 0 k 0 A C A2 C2:=by
 have h1 : wd k 1 = 0:=wd_high h
 have h0 : wd k 0 = (k : Int):=wd_low h
 show nV false (wd k 1) (wd k 0) 0 A C A2 C2 = _
 rw [h1,h0]
theorem nmD_size (b : Bool) (c s : Nat) : (nmD b c s).size = 1:=by unfold nmD;rw [VD.size];simp [sizes]
theorem nd_size (k : Nat) : (nd k).size = 1:=by unfold nd;rw [VD.size];simp [sizes]
theorem same_nd {k : Nat} (hk : k ≤ 60) (A : Option Addr) (C : Nat) (A2 : Option Addr) (C2 : Nat) (W : World) (h : VA W (nd k) A C A2 C2) :
  Calls Tryz.prog 12 #[.agg #[.int .i64 2,.bool false,.bool false,.int .u64 0,.int .u64 k,.int .i64 0,.string ⟨#[]⟩,.int .i64 0,.slice A 0 C,.slice A2 0 C2],.agg #[.int .i64 2,.bool false,.bool false,.int .u64 0,.int .u64 k,.int .i64 0,.string ⟨#[]⟩,.int .i64 0,.slice none 0 0,.slice none 0 0]] W fun e w' => e = .returned (.bool true) ∧ Below W.heap.size W w':=by
 have q:=same_self (nd k) A C A2 C2 none 0 none 0 W h (va_flat (numS_ok (Nat.lt_of_le_of_lt hk (by decide)))) (by rw [nd_size];decide)
 rw [nd_vargsK hk,nd_vargsK hk] at q
 exact q
set_option maxRecDepth 100000 in
set_option maxHeartbeats 4000000 in
theorem numbers_odd (N O R V : Value) (n nn on vn NC OC RC VC0 : Nat) (NA OA RA VA0 : Option Addr) (hN : N = .slice NA nn NC) (hO : O = .slice OA on OC) (hR : R = .slice RA n RC) (hV : V = .slice VA0 vn VC0) (w : World) (HK : Hid (∀ W : World,Below w.heap.size w W → Calls Tryz.prog 9 #[] W fun e w' => e = .returned (.bool true) ∧ Below W.heap.size W w')) (k : Nat) (hk : k ≤ 60) (bq : Bool) (HQ : Hid ((bq = true ∧ n = 0 ∧ 0 < vn ∧ k = 1) ∨ (bq = false ∧ ((n ≠ 0 ∧ k = n) ∨ (n = 0 ∧ vn = 0 ∧ k = 0))))) (hn6 : n ≤ 1048576) (hv6 : vn ≤ 1048576)
  (h9 : LDecV 9 zV VD.zero 0 (.agg #[N,O,R,V]) w) (h10 : LDecV 10 zV VD.zero 0 (.agg #[N,O,R,V]) w) (h8 : LDecV 8 zV VD.zero 0 (.agg #[N,O,R,V]) w) (h11 : LDecV 11 (nV false 0 k 0) (nd k) 0 (.agg #[N,O,R,V]) w) :
  Calls Tryz.prog 8 #[.agg #[N,O,R,V]] w fun e w' => e = .returned (.bool true) ∧ Below w.heap.size w w':=by
 subst hN hO hR hV
 unfold LDecV at h9 h10 h8 h11
 (try simp only [zV,nV] at h9 h10 h8 h11)
 have H9:=Lib.hid h9
 have H10:=Lib.hid h10
 have H8:=Lib.hid h8
 have H11:=Lib.hid h11
 clear h9 h10 h8 h11
 have hnc : (n : Int) ≤ 1048576:=by omega
 have hvc : (vn : Int) ≤ 1048576:=by omega
 go_enter Tryz.func8,Tryz.ntmps8
 go_upto_region 10 with (first | ((go_at_call 9;with_reducible refine (HK.out _ (by (repeat' first|(with_reducible first|exact blR _ _|assumption|refine blD ?_|refine blN ?_ _)|((with_reducible first|refine blA ?_ ?_ _|refine blS ?_ ?_ _|refine blT (by assumption) ?_ ?_);focus (go_size;done))))).mono ?_);rintro _ w1 ⟨rfl,hb1⟩;have hb1s:=hb1.size;(try simp only [wsA,wsS,wsD,wsN] at hb1s);obtain ⟨hb1c,hb1f⟩:=bcell hb1;(try have : w.heap.size < w1.heap.size:=by omega);(try have : w.heap.size + 1 < w1.heap.size:=by omega);(try have : w.heap.size + 1 + 1 < w1.heap.size:=by omega);(try have : w.heap.size + 1 + 1 + 1 < w1.heap.size:=by omega)) | (go_at_call 11;(with_reducible refine (H9.out _ (by (repeat' first|(with_reducible first|exact blR _ _|assumption|refine blD ?_|refine blN ?_ _)|((with_reducible first|refine blA ?_ ?_ _|refine blS ?_ ?_ _|refine blT (by assumption) ?_ ?_);focus (go_size;done))))).mono ?_);rintro _ w2 ⟨A9,C9,B9,D9,rfl,hv9,hbw2⟩;have HV9:=Lib.hid hv9.va;clear hv9;have hbw2s:=hbw2.size;(try simp only [World.size_alloc] at hbw2s);(try have : w.heap.size < w2.heap.size:=by omega);(try have : w.heap.size + 1 < w2.heap.size:=by omega);(try have : w.heap.size + 1 + 1 < w2.heap.size:=by omega);(try have : w.heap.size + 1 + 1 + 1 < w2.heap.size:=by omega);(try have : w1.heap.size < w2.heap.size:=by omega);(try have : w1.heap.size + 1 < w2.heap.size:=by omega);(try have : w1.heap.size + 1 + 1 < w2.heap.size:=by omega);(try have : w1.heap.size + 1 + 1 + 1 < w2.heap.size:=by omega);obtain ⟨hbw2c,hbw2f⟩:=bcell hbw2) | (go_at_call 11;(with_reducible refine (H10.out _ (by (repeat' first|(with_reducible first|exact blR _ _|assumption|refine blD ?_|refine blN ?_ _)|((with_reducible first|refine blA ?_ ?_ _|refine blS ?_ ?_ _|refine blT (by assumption) ?_ ?_);focus (go_size;done))))).mono ?_);rintro _ w3 ⟨A10,C10,B10,D10,rfl,hv10,hbw3⟩;have HV10:=Lib.hid hv10.va;clear hv10;have hbw3s:=hbw3.size;(try simp only [World.size_alloc] at hbw3s);(try have : w.heap.size < w3.heap.size:=by omega);(try have : w.heap.size + 1 < w3.heap.size:=by omega);(try have : w.heap.size + 1 + 1 < w3.heap.size:=by omega);(try have : w.heap.size + 1 + 1 + 1 < w3.heap.size:=by omega);(try have : w2.heap.size < w3.heap.size:=by omega);(try have : w2.heap.size + 1 < w3.heap.size:=by omega);(try have : w2.heap.size + 1 + 1 < w3.heap.size:=by omega);(try have : w2.heap.size + 1 + 1 + 1 < w3.heap.size:=by omega);obtain ⟨hbw3c,hbw3f⟩:=bcell hbw3) | ((go_at_call 11;(with_reducible refine (H8.out _ (by (repeat' first|(with_reducible first|exact blR _ _|assumption|refine blD ?_|refine blN ?_ _)|((with_reducible first|refine blA ?_ ?_ _|refine blS ?_ ?_ _|refine blT (by assumption) ?_ ?_);focus (go_size;done))))).mono ?_);rintro _ w4 ⟨A8,C8,B8,D8,rfl,hv8,hbw4⟩;have HV8:=Lib.hid hv8.va;clear hv8;have hbw4s:=hbw4.size;(try simp only [World.size_alloc] at hbw4s);(try have : w.heap.size < w4.heap.size:=by omega);(try have : w.heap.size + 1 < w4.heap.size:=by omega);(try have : w.heap.size + 1 + 1 < w4.heap.size:=by omega);(try have : w.heap.size + 1 + 1 + 1 < w4.heap.size:=by omega);(try have : w3.heap.size < w4.heap.size:=by omega);(try have : w3.heap.size + 1 < w4.heap.size:=by omega);(try have : w3.heap.size + 1 + 1 < w4.heap.size:=by omega);(try have : w3.heap.size + 1 + 1 + 1 < w4.heap.size:=by omega);obtain ⟨hbw4c,hbw4f⟩:=bcell hbw4);(try have : w2.heap.size < w4.heap.size:=by omega);(try have : w2.heap.size + 1 < w4.heap.size:=by omega);(try have : w2.heap.size + 1 + 1 < w4.heap.size:=by omega);(try have : w2.heap.size + 1 + 1 + 1 < w4.heap.size:=by omega)) | ((go_at_call 11;(with_reducible refine (H11.out _ (by (repeat' first|(with_reducible first|exact blR _ _|assumption|refine blD ?_|refine blN ?_ _)|((with_reducible first|refine blA ?_ ?_ _|refine blS ?_ ?_ _|refine blT (by assumption) ?_ ?_);focus (go_size;done))))).mono ?_);rintro _ w5 ⟨A11,C11,B11,D11,rfl,hv11,hbw5⟩;have HV11:=Lib.hid hv11.va;clear hv11;have hbw5s:=hbw5.size;(try simp only [World.size_alloc] at hbw5s);(try have : w.heap.size < w5.heap.size:=by omega);(try have : w.heap.size + 1 < w5.heap.size:=by omega);(try have : w.heap.size + 1 + 1 < w5.heap.size:=by omega);(try have : w.heap.size + 1 + 1 + 1 < w5.heap.size:=by omega);(try have : w4.heap.size < w5.heap.size:=by omega);(try have : w4.heap.size + 1 < w5.heap.size:=by omega);(try have : w4.heap.size + 1 + 1 < w5.heap.size:=by omega);(try have : w4.heap.size + 1 + 1 + 1 < w5.heap.size:=by omega);obtain ⟨hbw5c,hbw5f⟩:=bcell hbw5);(try have : w2.heap.size < w5.heap.size:=by omega);(try have : w2.heap.size + 1 < w5.heap.size:=by omega);(try have : w2.heap.size + 1 + 1 < w5.heap.size:=by omega);(try have : w2.heap.size + 1 + 1 + 1 < w5.heap.size:=by omega);(try have : w3.heap.size < w5.heap.size:=by omega);(try have : w3.heap.size + 1 < w5.heap.size:=by omega);(try have : w3.heap.size + 1 + 1 < w5.heap.size:=by omega);(try have : w3.heap.size + 1 + 1 + 1 < w5.heap.size:=by omega)))
 generalize hW : w5.alloc _ = W
 have kR : Bk W w.heap.size 26 [.slice NA nn NC,.slice OA on OC,.slice RA n RC,.slice VA0 vn VC0]:=by
  rw [← hW]
  (repeat (first|(with_reducible assumption)|((with_reducible refine bkW ?_);(first|rfl|(simp only [wsA,wsS,wsD,wsN];done)))|(with_reducible first|refine bkA ?_ _|refine bkD ?_|refine bkN ?_ _)|((with_reducible refine bkF ?_ ?_ _);focus (simp only [];omega))|((with_reducible refine bkB (by assumption) ?_ ?_);focus (go_size;done))))
 have k9 : Bk W w2.heap.size 34 [.int .i64 0,.bool false,.bool false,.int .u64 0,.int .u64 0,.int .i64 0,.string ⟨#[]⟩,.int .i64 0,.slice A9 0 C9,.slice B9 0 D9]:=by
  rw [← hW]
  (repeat (first|(with_reducible assumption)|((with_reducible refine bkW ?_);(first|rfl|(simp only [wsA,wsS,wsD,wsN];done)))|(with_reducible first|refine bkA ?_ _|refine bkD ?_|refine bkN ?_ _)|((with_reducible refine bkF ?_ ?_ _);focus (simp only [];omega))|((with_reducible refine bkB (by assumption) ?_ ?_);focus (go_size;done))))
 have k10 : Bk W w3.heap.size 34 [.int .i64 0,.bool false,.bool false,.int .u64 0,.int .u64 0,.int .i64 0,.string ⟨#[]⟩,.int .i64 0,.slice A10 0 C10,.slice B10 0 D10]:=by
  rw [← hW]
  (repeat (first|(with_reducible assumption)|((with_reducible refine bkW ?_);(first|rfl|(simp only [wsA,wsS,wsD,wsN];done)))|(with_reducible first|refine bkA ?_ _|refine bkD ?_|refine bkN ?_ _)|((with_reducible refine bkF ?_ ?_ _);focus (simp only [];omega))|((with_reducible refine bkB (by assumption) ?_ ?_);focus (go_size;done))))
 have k8 : Bk W w4.heap.size 34 [.int .i64 0,.bool false,.bool false,.int .u64 0,.int .u64 0,.int .i64 0,.string ⟨#[]⟩,.int .i64 0,.slice A8 0 C8,.slice B8 0 D8]:=by
  rw [← hW]
  (repeat (first|(with_reducible assumption)|((with_reducible refine bkW ?_);(first|rfl|(simp only [wsA,wsS,wsD,wsN];done)))|(with_reducible first|refine bkA ?_ _|refine bkD ?_|refine bkN ?_ _)|((with_reducible refine bkF ?_ ?_ _);focus (simp only [];omega))|((with_reducible refine bkB (by assumption) ?_ ?_);focus (go_size;done))))
 have k11 : Bk W w5.heap.size 34 [.int .i64 2,.bool false,.bool false,.int .u64 0,.int .u64 k,.int .i64 0,.string ⟨#[]⟩,.int .i64 0,.slice A11 0 C11,.slice B11 0 D11]:=by
  rw [← hW]
  (repeat (first|(with_reducible assumption)|((with_reducible refine bkW ?_);(first|rfl|(simp only [wsA,wsS,wsD,wsN];done)))|(with_reducible first|refine bkA ?_ _|refine bkD ?_|refine bkN ?_ _)|((with_reducible refine bkF ?_ ?_ _);focus (simp only [];omega))|((with_reducible refine bkB (by assumption) ?_ ?_);focus (go_size;done))))
 have m2 : Below w2.heap.size w2 W:=by
  rw [← hW]
  (repeat' first|(with_reducible first|exact blR _ _|assumption|refine blD ?_|refine blN ?_ _)|((with_reducible first|refine blA ?_ ?_ _|refine blS ?_ ?_ _|refine blT (by assumption) ?_ ?_);focus (go_size;done)))
 have m3 : Below w3.heap.size w3 W:=by
  rw [← hW]
  (repeat' first|(with_reducible first|exact blR _ _|assumption|refine blD ?_|refine blN ?_ _)|((with_reducible first|refine blA ?_ ?_ _|refine blS ?_ ?_ _|refine blT (by assumption) ?_ ?_);focus (go_size;done)))
 have m4 : Below w4.heap.size w4 W:=by
  rw [← hW]
  (repeat' first|(with_reducible first|exact blR _ _|assumption|refine blD ?_|refine blN ?_ _)|((with_reducible first|refine blA ?_ ?_ _|refine blS ?_ ?_ _|refine blT (by assumption) ?_ ?_);focus (go_size;done)))
 have m5 : Below w5.heap.size w5 W:=by
  rw [← hW]
  (repeat' first|(with_reducible first|exact blR _ _|assumption|refine blD ?_|refine blN ?_ _)|((with_reducible first|refine blA ?_ ?_ _|refine blS ?_ ?_ _|refine blT (by assumption) ?_ ?_);focus (go_size;done)))
 have mb : Below w.heap.size w W:=by
  rw [← hW]
  (repeat' first|(with_reducible first|exact blR _ _|assumption|refine blD ?_|refine blN ?_ _)|((with_reducible first|refine blA ?_ ?_ _|refine blS ?_ ?_ _|refine blT (by assumption) ?_ ?_);focus (go_size;done)))
 clear hW hb1 hb1c hb1f hbw2 hbw2c hbw2f hbw3 hbw3c hbw3f hbw4 hbw4c hbw4f hbw5 hbw5c hbw5f
 go_cut [72] from 65 (fun s72 wx => s72 = .bool bq ∧ Hid (W = wx))
 case first =>
  have r0:=kR.cell 3 rfl
  rcases HQ.out with ⟨rfl,q1,q2,q3⟩ | ⟨rfl,q1⟩
  ·have e1 : ((n : Int) == 0) = true:=by rw [beq_iff_eq];omega
   have e2 : (0 : Int) < (vn : Int):=by omega
   clear q1 q3
   go_wp2_with fail
   go_meet
   exact ⟨rfl,Lib.hid rfl⟩
  ·rcases q1 with ⟨q1,q5⟩ | ⟨q1,q2,q5⟩
   ·have e1 : ((n : Int) == 0) = false:=by rw [beq_eq_false_iff_ne];omega
    clear q1 q5
    go_wp2_with fail
    go_meet
    exact ⟨rfl,Lib.hid rfl⟩
   ·have e1 : ((n : Int) == 0) = true:=by rw [beq_iff_eq];omega
    have e2 : ¬ (0 : Int) < (vn : Int):=by omega
    have e3 : ¬ 0 < vn:=by omega
    clear q1 q2 q5
    go_wp2_with fail
    go_meet
    exact ⟨rfl,Lib.hid rfl⟩
 case rest =>
 obtain ⟨rfl,hwc⟩:=hcut
 obtain rfl:=hwc.out
 go_upto_if 72 with (fail)
 go_cut [11] from 73 (fun s11 wx => s11 = .int .i64 (k : Int) ∧ Hid (W = wx))
 case first =>
  rcases HQ.out with ⟨rfl,q1,q2,q3⟩ | ⟨rfl,q1⟩
  ·have HQ3:=Lib.hid q3
   clear q1 q2 q3
   go_wp2_with fail
   go_meet
   exact ⟨by rw [HQ3.out];rfl,Lib.hid rfl⟩
  ·have HQ3 : Hid (k = n):=Lib.hid (by omega)
   clear q1
   go_wp2_with fail
   go_meet
   exact ⟨by rw [HQ3.out],Lib.hid rfl⟩
 case rest =>
 obtain ⟨rfl,hwc⟩:=hcut
 obtain rfl:=hwc.out
 have hk0 : (0 : Int) ≤ (k : Int):=by omega
 have hk6 : (k : Int) ≤ 60:=by omega
 have hwk : IntKind.u64.wrap (k : Int) = k:=IntWalk.u64_in _ (by omega)
 have HSN:=Lib.hid (fun (X : World) (hX : Below w5.heap.size w5 X) => same_nd hk A11 C11 B11 D11 X (va_below HV11.out hX))
 have l9:=k9.lt
 have l10:=k10.lt
 have l8:=k8.lt
 have l11:=k11.lt
 have lR:=kR.lt
 have q9:=k9.cell 0 rfl
 have q10:=k10.cell 0 rfl
 have nc0:=k11.cell 0 rfl
 have nc1:=k11.cell 1 rfl
 have nc2:=k11.cell 2 rfl
 have nc3:=k11.cell 3 rfl
 have nc4:=k11.cell 4 rfl
 have nc5:=k11.cell 5 rfl
 have nc6:=k11.cell 6 rfl
 have nc7:=k11.cell 7 rfl
 have nc8:=k11.cell 8 rfl
 have nc9:=k11.cell 9 rfl
 have mWs:=mb.size
 go_wp2_with fail
 refine wp_region_held_drew (S:=(fun w' => w'.cell? ⟨w2.heap.size,0,none⟩ = some (.int .i64 0) ∧ w'.cell? ⟨w3.heap.size,0,none⟩ = some (.int .i64 0) ∧ w'.cell? ⟨w5.heap.size,0,none⟩ = some (.int .i64 2) ∧ w'.cell? ⟨w5.heap.size,1,none⟩ = some (.bool false) ∧ w'.cell? ⟨w5.heap.size,2,none⟩ = some (.bool false) ∧ w'.cell? ⟨w5.heap.size,3,none⟩ = some (.int .u64 0) ∧ w'.cell? ⟨w5.heap.size,4,none⟩ = some (.int .u64 (k : Int)) ∧ w'.cell? ⟨w5.heap.size,5,none⟩ = some (.int .i64 0) ∧ w'.cell? ⟨w5.heap.size,6,none⟩ = some (.string ⟨#[]⟩) ∧ w'.cell? ⟨w5.heap.size,7,none⟩ = some (.int .i64 0) ∧ w'.cell? ⟨w5.heap.size,8,none⟩ = some (.slice A11 0 C11) ∧ w'.cell? ⟨w5.heap.size,9,none⟩ = some (.slice B11 0 D11))) (by kernel_rfl) ?_ (fun hHeld => ?_)
 focus (first | (go_keep;done) | (simp [go_sem];done) | ((try dsimp only);(repeat' apply And.intro) <;> (first | (with_reducible assumption) | ((rw [World.cell?_alloc_lt _ _ _ (by show _ < _;omega)]);go_split_ands;(first | with_reducible assumption | (refine (World.cell?_alloc_lt _ _ _ (by show _ < _;omega)).symm.trans ?_;with_reducible assumption))) | ((rw [World.cell?_setCell_other _ _ _ _ (by intro e;injection e;omega)]);with_reducible assumption) | (go_keep;done) | (simp [go_sem];done) | (simp (disch:=go_size) [*,World.cell?_alloc_some,World.cell?_setCell_far];done))))
 refine take_litD (i:=0) (oi:=?_) (v:=?_) ?_ ?_ ?_ ?_ ?_ (Or.inl ⟨?_, ?_⟩) ?_ ?_
 rotate_left
 rotate_left
 focus (simp only [List.getElem?_toArray,List.getElem?_cons_succ,List.getElem?_cons_zero];rfl)
 focus kernel_rfl
 focus kernel_rfl
 focus kernel_rfl
 focus (exact fun _ _ _ h => h)
 focus rfl
 focus ((intro w hSw;(try dsimp only at hSw);go_simp);first | done | with_reducible rfl)
 focus assumption
 (try simp only [Act.put,List.setIfInBounds_toArray,List.set_cons_zero,List.set_cons_succ])
 refine take_litD (i:=1) (oi:=?_) (v:=?_) ?_ ?_ ?_ ?_ ?_ (Or.inl ⟨?_, ?_⟩) ?_ ?_
 rotate_left
 rotate_left
 focus (simp only [List.getElem?_toArray,List.getElem?_cons_succ,List.getElem?_cons_zero];rfl)
 focus kernel_rfl
 focus kernel_rfl
 focus kernel_rfl
 focus (exact fun _ _ _ h => h)
 focus rfl
 focus ((intro w hSw;(try dsimp only at hSw);go_simp);first | done | with_reducible rfl)
 focus assumption
 (try simp only [Act.put,List.setIfInBounds_toArray,List.set_cons_zero,List.set_cons_succ])
 refine take_litD (i:=2) (oi:=?_) (v:=?_) ?_ ?_ ?_ ?_ ?_ (Or.inl ⟨?_, ?_⟩) ?_ ?_
 rotate_left
 rotate_left
 focus (simp only [List.getElem?_toArray,List.getElem?_cons_succ,List.getElem?_cons_zero];rfl)
 focus kernel_rfl
 focus kernel_rfl
 focus kernel_rfl
 focus (exact fun _ _ _ h => h)
 focus rfl
 focus ((intro w hSw;(try dsimp only at hSw);go_simp);first | done | with_reducible rfl)
 focus assumption
 (try simp only [Act.put,List.setIfInBounds_toArray,List.set_cons_zero,List.set_cons_succ])
 refine take_litD (i:=3) (oi:=?_) (v:=?_) ?_ ?_ ?_ ?_ ?_ (Or.inl ⟨?_, ?_⟩) ?_ ?_
 rotate_left
 rotate_left
 focus (simp only [List.getElem?_toArray,List.getElem?_cons_succ,List.getElem?_cons_zero];rfl)
 focus kernel_rfl
 focus kernel_rfl
 focus kernel_rfl
 focus (exact fun _ _ _ h => h)
 focus rfl
 focus ((intro w hSw;(try dsimp only at hSw);go_simp);first | done | with_reducible rfl)
 focus assumption
 (try simp only [Act.put,List.setIfInBounds_toArray,List.set_cons_zero,List.set_cons_succ])
 refine take_litD (i:=4) (oi:=?_) (v:=?_) ?_ ?_ ?_ ?_ ?_ (Or.inl ⟨?_, ?_⟩) ?_ ?_
 rotate_left
 rotate_left
 focus (simp only [List.getElem?_toArray,List.getElem?_cons_succ,List.getElem?_cons_zero];rfl)
 focus kernel_rfl
 focus kernel_rfl
 focus kernel_rfl
 focus (exact fun _ _ _ h => h)
 focus rfl
 focus ((intro w hSw;(try dsimp only at hSw);go_simp);first | done | with_reducible rfl)
 focus assumption
 (try simp only [Act.put,List.setIfInBounds_toArray,List.set_cons_zero,List.set_cons_succ])
 refine take_litD (i:=5) (oi:=?_) (v:=?_) ?_ ?_ ?_ ?_ ?_ (Or.inl ⟨?_, ?_⟩) ?_ ?_
 rotate_left
 rotate_left
 focus (simp only [List.getElem?_toArray,List.getElem?_cons_succ,List.getElem?_cons_zero];rfl)
 focus kernel_rfl
 focus kernel_rfl
 focus kernel_rfl
 focus (exact fun _ _ _ h => h)
 focus rfl
 focus ((intro w hSw;(try dsimp only at hSw);go_simp);first | done | with_reducible rfl)
 focus assumption
 (try simp only [Act.put,List.setIfInBounds_toArray,List.set_cons_zero,List.set_cons_succ])
 refine take_litD (i:=6) (oi:=?_) (v:=?_) ?_ ?_ ?_ ?_ ?_ (Or.inl ⟨?_, ?_⟩) ?_ ?_
 rotate_left
 rotate_left
 focus (simp only [List.getElem?_toArray,List.getElem?_cons_succ,List.getElem?_cons_zero];rfl)
 focus kernel_rfl
 focus kernel_rfl
 focus kernel_rfl
 focus (exact fun _ _ _ h => h)
 focus rfl
 focus ((intro w hSw;(try dsimp only at hSw);go_simp);first | done | with_reducible rfl)
 focus assumption
 (try simp only [Act.put,List.setIfInBounds_toArray,List.set_cons_zero,List.set_cons_succ])
 refine take_litD (i:=7) (oi:=?_) (v:=?_) ?_ ?_ ?_ ?_ ?_ (Or.inl ⟨?_, ?_⟩) ?_ ?_
 rotate_left
 rotate_left
 focus (simp only [List.getElem?_toArray,List.getElem?_cons_succ,List.getElem?_cons_zero];rfl)
 focus kernel_rfl
 focus kernel_rfl
 focus kernel_rfl
 focus (exact fun _ _ _ h => h)
 focus rfl
 focus ((intro w hSw;(try dsimp only at hSw);go_simp);first | done | with_reducible rfl)
 focus assumption
 (try simp only [Act.put,List.setIfInBounds_toArray,List.set_cons_zero,List.set_cons_succ])
 refine take_litD (i:=8) (oi:=?_) (v:=?_) ?_ ?_ ?_ ?_ ?_ (Or.inl ⟨?_, ?_⟩) ?_ ?_
 rotate_left
 rotate_left
 focus (simp only [List.getElem?_toArray,List.getElem?_cons_succ,List.getElem?_cons_zero];rfl)
 focus kernel_rfl
 focus kernel_rfl
 focus kernel_rfl
 focus (exact fun _ _ _ h => h)
 focus rfl
 focus ((intro w hSw;(try dsimp only at hSw);go_simp);first | done | with_reducible rfl)
 focus assumption
 (try simp only [Act.put,List.setIfInBounds_toArray,List.set_cons_zero,List.set_cons_succ])
 refine take_litD (i:=9) (oi:=?_) (v:=?_) ?_ ?_ ?_ ?_ ?_ (Or.inl ⟨?_, ?_⟩) ?_ ?_
 rotate_left
 rotate_left
 focus (simp only [List.getElem?_toArray,List.getElem?_cons_succ,List.getElem?_cons_zero];rfl)
 focus kernel_rfl
 focus kernel_rfl
 focus kernel_rfl
 focus (exact fun _ _ _ h => h)
 focus rfl
 focus ((intro w hSw;(try dsimp only at hSw);go_simp);first | done | with_reducible rfl)
 focus assumption
 (try simp only [Act.put,List.setIfInBounds_toArray,List.set_cons_zero,List.set_cons_succ])
 refine take_litD (i:=10) (oi:=?_) (v:=?_) ?_ ?_ ?_ ?_ ?_ (Or.inl ⟨?_, ?_⟩) ?_ ?_
 rotate_left
 rotate_left
 focus (simp only [List.getElem?_toArray,List.getElem?_cons_succ,List.getElem?_cons_zero];rfl)
 focus kernel_rfl
 focus kernel_rfl
 focus kernel_rfl
 focus (exact fun _ _ _ h => h)
 focus rfl
 focus ((intro w hSw;(try dsimp only at hSw);go_simp);first | done | with_reducible rfl)
 focus assumption
 (try simp only [Act.put,List.setIfInBounds_toArray,List.set_cons_zero,List.set_cons_succ])
 refine take_litD (i:=11) (oi:=?_) (v:=?_) ?_ ?_ ?_ ?_ ?_ (Or.inl ⟨?_, ?_⟩) ?_ ?_
 rotate_left
 rotate_left
 focus (simp only [List.getElem?_toArray,List.getElem?_cons_succ,List.getElem?_cons_zero];rfl)
 focus kernel_rfl
 focus kernel_rfl
 focus kernel_rfl
 focus (exact fun _ _ _ h => h)
 focus rfl
 focus ((intro w hSw;(try dsimp only at hSw);go_simp);first | done | with_reducible rfl)
 focus assumption
 (try simp only [Act.put,List.setIfInBounds_toArray,List.set_cons_zero,List.set_cons_succ])
 refine take_litD (i:=12) (oi:=?_) (v:=?_) ?_ ?_ ?_ ?_ ?_ (Or.inl ⟨?_, ?_⟩) ?_ ?_
 rotate_left
 rotate_left
 focus (simp only [List.getElem?_toArray,List.getElem?_cons_succ,List.getElem?_cons_zero];rfl)
 focus kernel_rfl
 focus kernel_rfl
 focus kernel_rfl
 focus (exact fun _ _ _ h => h)
 focus rfl
 focus ((intro w hSw;(try dsimp only at hSw);go_simp);first | done | with_reducible rfl)
 focus assumption
 (try simp only [Act.put,List.setIfInBounds_toArray,List.set_cons_zero,List.set_cons_succ])
 refine take_litD (i:=13) (oi:=?_) (v:=?_) ?_ ?_ ?_ ?_ ?_ (Or.inl ⟨?_, ?_⟩) ?_ ?_
 rotate_left
 rotate_left
 focus (simp only [List.getElem?_toArray,List.getElem?_cons_succ,List.getElem?_cons_zero];rfl)
 focus kernel_rfl
 focus kernel_rfl
 focus kernel_rfl
 focus (exact fun _ _ _ h => h)
 focus rfl
 focus ((intro w hSw;(try dsimp only at hSw);go_simp);first | done | with_reducible rfl)
 focus assumption
 (try simp only [Act.put,List.setIfInBounds_toArray,List.set_cons_zero,List.set_cons_succ])
 refine take_litD (i:=14) (oi:=?_) (v:=undef) ?_ ?_ ?_ ?_ ?_ (Or.inr ⟨?_,rfl⟩) ?_ ?_
 rotate_left
 focus (simp only [List.getElem?_toArray,List.getElem?_cons_succ,List.getElem?_cons_zero];rfl)
 focus kernel_rfl
 focus kernel_rfl
 focus kernel_rfl
 focus (exact fun _ _ _ h => h)
 focus rfl
 focus assumption
 (try simp only [Act.put,List.setIfInBounds_toArray,List.set_cons_zero,List.set_cons_succ])
 refine take_litD (i:=15) (oi:=?_) (v:=undef) ?_ ?_ ?_ ?_ ?_ (Or.inr ⟨?_,rfl⟩) ?_ ?_
 rotate_left
 focus (simp only [List.getElem?_toArray,List.getElem?_cons_succ,List.getElem?_cons_zero];rfl)
 focus kernel_rfl
 focus kernel_rfl
 focus kernel_rfl
 focus (exact fun _ _ _ h => h)
 focus rfl
 focus assumption
 (try simp only [Act.put,List.setIfInBounds_toArray,List.set_cons_zero,List.set_cons_succ])
 refine take_litD (i:=16) (oi:=?_) (v:=?_) ?_ ?_ ?_ ?_ ?_ (Or.inl ⟨?_, ?_⟩) ?_ ?_
 rotate_left
 rotate_left
 focus (simp only [List.getElem?_toArray,List.getElem?_cons_succ,List.getElem?_cons_zero];rfl)
 focus kernel_rfl
 focus kernel_rfl
 focus kernel_rfl
 focus (exact fun _ _ _ h => h)
 focus rfl
 focus ((intro w hSw;(try dsimp only at hSw);go_simp);first | done | with_reducible rfl)
 focus assumption
 (try simp only [Act.put,List.setIfInBounds_toArray,List.set_cons_zero,List.set_cons_succ])
 refine take_litD (i:=17) (oi:=?_) (v:=?_) ?_ ?_ ?_ ?_ ?_ (Or.inl ⟨?_, ?_⟩) ?_ ?_
 rotate_left
 rotate_left
 focus (simp only [List.getElem?_toArray,List.getElem?_cons_succ,List.getElem?_cons_zero];rfl)
 focus kernel_rfl
 focus kernel_rfl
 focus kernel_rfl
 focus (exact fun _ _ _ h => h)
 focus rfl
 focus ((intro w hSw;(try dsimp only at hSw);go_simp);first | done | with_reducible rfl)
 focus assumption
 (try simp only [Act.put,List.setIfInBounds_toArray,List.set_cons_zero,List.set_cons_succ])
 refine take_litD (i:=18) (oi:=?_) (v:=?_) ?_ ?_ ?_ ?_ ?_ (Or.inl ⟨?_, ?_⟩) ?_ ?_
 rotate_left
 rotate_left
 focus (simp only [List.getElem?_toArray,List.getElem?_cons_succ,List.getElem?_cons_zero];rfl)
 focus kernel_rfl
 focus kernel_rfl
 focus kernel_rfl
 focus (exact fun _ _ _ h => h)
 focus rfl
 focus ((intro w hSw;(try dsimp only at hSw);go_simp);first | done | with_reducible rfl)
 focus assumption
 (try simp only [Act.put,List.setIfInBounds_toArray,List.set_cons_zero,List.set_cons_succ])
 refine take_litD (i:=19) (oi:=?_) (v:=?_) ?_ ?_ ?_ ?_ ?_ (Or.inl ⟨?_, ?_⟩) ?_ ?_
 rotate_left
 rotate_left
 focus (simp only [List.getElem?_toArray,List.getElem?_cons_succ,List.getElem?_cons_zero];rfl)
 focus kernel_rfl
 focus kernel_rfl
 focus kernel_rfl
 focus (exact fun _ _ _ h => h)
 focus rfl
 focus ((intro w hSw;(try dsimp only at hSw);go_simp);first | done | with_reducible rfl)
 focus assumption
 (try simp only [Act.put,List.setIfInBounds_toArray,List.set_cons_zero,List.set_cons_succ])
 refine take_litD (i:=20) (oi:=?_) (v:=?_) ?_ ?_ ?_ ?_ ?_ (Or.inl ⟨?_, ?_⟩) ?_ ?_
 rotate_left
 rotate_left
 focus (simp only [List.getElem?_toArray,List.getElem?_cons_succ,List.getElem?_cons_zero];rfl)
 focus kernel_rfl
 focus kernel_rfl
 focus kernel_rfl
 focus (exact fun _ _ _ h => h)
 focus rfl
 focus ((intro w hSw;(try dsimp only at hSw);go_simp);first | done | with_reducible rfl)
 focus assumption
 (try simp only [Act.put,List.setIfInBounds_toArray,List.set_cons_zero,List.set_cons_succ])
 refine take_litD (i:=21) (oi:=?_) (v:=?_) ?_ ?_ ?_ ?_ ?_ (Or.inl ⟨?_, ?_⟩) ?_ ?_
 rotate_left
 rotate_left
 focus (simp only [List.getElem?_toArray,List.getElem?_cons_succ,List.getElem?_cons_zero];rfl)
 focus kernel_rfl
 focus kernel_rfl
 focus kernel_rfl
 focus (exact fun _ _ _ h => h)
 focus rfl
 focus ((intro w hSw;(try dsimp only at hSw);go_simp);first | done | with_reducible rfl)
 focus assumption
 (try simp only [Act.put,List.setIfInBounds_toArray,List.set_cons_zero,List.set_cons_succ])
 refine wpAnyH_ready (rs:=[22]) (by kernel_rfl) (by simp) ?_
 refine AllReadyH.cons (o:=_) rfl (fun K hK => ?_) AllReadyH.nil
 go_simp
 ((go_at_call 20;with_reducible refine (num18_any (k : Int) _).mono ?_);rintro _ w6 ⟨rfl,hb6⟩;have hb6s:=hb6.size;(try simp only [wsA,wsS,wsD,wsN] at hb6s);obtain ⟨hb6c,hb6f⟩:=bcell hb6;(try have : w.heap.size < w6.heap.size:=by omega);(try have : w.heap.size + 1 < w6.heap.size:=by omega);(try have : w.heap.size + 1 + 1 < w6.heap.size:=by omega);(try have : w.heap.size + 1 + 1 + 1 < w6.heap.size:=by omega);(try have : w2.heap.size < w6.heap.size:=by omega);(try have : w2.heap.size + 1 < w6.heap.size:=by omega);(try have : w2.heap.size + 1 + 1 < w6.heap.size:=by omega);(try have : w2.heap.size + 1 + 1 + 1 < w6.heap.size:=by omega);(try have : w3.heap.size < w6.heap.size:=by omega);(try have : w3.heap.size + 1 < w6.heap.size:=by omega);(try have : w3.heap.size + 1 + 1 < w6.heap.size:=by omega);(try have : w3.heap.size + 1 + 1 + 1 < w6.heap.size:=by omega);(try have : w4.heap.size < w6.heap.size:=by omega);(try have : w4.heap.size + 1 < w6.heap.size:=by omega);(try have : w4.heap.size + 1 + 1 < w6.heap.size:=by omega);(try have : w4.heap.size + 1 + 1 + 1 < w6.heap.size:=by omega);(try have : w5.heap.size < w6.heap.size:=by omega);(try have : w5.heap.size + 1 < w6.heap.size:=by omega);(try have : w5.heap.size + 1 + 1 < w6.heap.size:=by omega);(try have : w5.heap.size + 1 + 1 + 1 < w6.heap.size:=by omega))
 refine hK.out _ _ ?_ (fun hHeld => ?_)
 focus (first | (go_keep;done) | (simp [go_sem];done) | ((try dsimp only);(repeat' apply And.intro) <;> (first | (with_reducible assumption) | ((rw [World.cell?_alloc_lt _ _ _ (by show _ < _;omega)]);go_split_ands;(first | with_reducible assumption | (refine (World.cell?_alloc_lt _ _ _ (by show _ < _;omega)).symm.trans ?_;with_reducible assumption))) | ((rw [World.cell?_setCell_other _ _ _ _ (by intro e;injection e;omega)]);with_reducible assumption) | (go_keep;done) | (simp [go_sem];done) | (simp (disch:=go_size) [*,World.cell?_alloc_some,World.cell?_setCell_far];done))))
 clear hK K
 (try simp only [Act.put,List.setIfInBounds_toArray,List.set_cons_zero,List.set_cons_succ])
 refine wpAnyH_ready (rs:=[23]) (by kernel_rfl) (by simp) ?_
 refine AllReadyH.cons (o:=_) rfl (fun K hK => ?_) AllReadyH.nil
 go_simp
 ((go_at_call 12;with_reducible refine (HSN.out _ (by (repeat' first|(with_reducible first|exact blR _ _|assumption|refine blD ?_|refine blN ?_ _)|((with_reducible first|refine blA ?_ ?_ _|refine blS ?_ ?_ _|refine blT (by assumption) ?_ ?_);focus (go_size;done))))).mono ?_);rintro _ w7 ⟨rfl,hb7⟩;have hb7s:=hb7.size;(try simp only [wsA,wsS,wsD,wsN] at hb7s);obtain ⟨hb7c,hb7f⟩:=bcell hb7;(try have : w.heap.size < w7.heap.size:=by omega);(try have : w.heap.size + 1 < w7.heap.size:=by omega);(try have : w.heap.size + 1 + 1 < w7.heap.size:=by omega);(try have : w.heap.size + 1 + 1 + 1 < w7.heap.size:=by omega);(try have : w2.heap.size < w7.heap.size:=by omega);(try have : w2.heap.size + 1 < w7.heap.size:=by omega);(try have : w2.heap.size + 1 + 1 < w7.heap.size:=by omega);(try have : w2.heap.size + 1 + 1 + 1 < w7.heap.size:=by omega);(try have : w3.heap.size < w7.heap.size:=by omega);(try have : w3.heap.size + 1 < w7.heap.size:=by omega);(try have : w3.heap.size + 1 + 1 < w7.heap.size:=by omega);(try have : w3.heap.size + 1 + 1 + 1 < w7.heap.size:=by omega);(try have : w4.heap.size < w7.heap.size:=by omega);(try have : w4.heap.size + 1 < w7.heap.size:=by omega);(try have : w4.heap.size + 1 + 1 < w7.heap.size:=by omega);(try have : w4.heap.size + 1 + 1 + 1 < w7.heap.size:=by omega);(try have : w5.heap.size < w7.heap.size:=by omega);(try have : w5.heap.size + 1 < w7.heap.size:=by omega);(try have : w5.heap.size + 1 + 1 < w7.heap.size:=by omega);(try have : w5.heap.size + 1 + 1 + 1 < w7.heap.size:=by omega))
 refine hK.out _ _ ?_ (fun hHeld => ?_)
 focus (first | (go_keep;done) | (simp [go_sem];done) | ((try dsimp only);(repeat' apply And.intro) <;> (first | (with_reducible assumption) | ((rw [World.cell?_alloc_lt _ _ _ (by show _ < _;omega)]);go_split_ands;(first | with_reducible assumption | (refine (World.cell?_alloc_lt _ _ _ (by show _ < _;omega)).symm.trans ?_;with_reducible assumption))) | ((rw [World.cell?_setCell_other _ _ _ _ (by intro e;injection e;omega)]);with_reducible assumption) | (go_keep;done) | (simp [go_sem];done) | (simp (disch:=go_size) [*,World.cell?_alloc_some,World.cell?_setCell_far];done))))
 clear hK K
 (try simp only [Act.put,List.setIfInBounds_toArray,List.set_cons_zero,List.set_cons_succ])
 refine take_litD (i:=24) (oi:=?_) (v:=?_) ?_ ?_ ?_ ?_ ?_ (Or.inl ⟨?_, ?_⟩) ?_ ?_
 rotate_left
 rotate_left
 focus (simp only [List.getElem?_toArray,List.getElem?_cons_succ,List.getElem?_cons_zero];rfl)
 focus kernel_rfl
 focus kernel_rfl
 focus kernel_rfl
 focus (exact fun _ _ _ h => h)
 focus rfl
 focus ((intro w hSw;(try dsimp only at hSw);go_simp);first | done | with_reducible rfl)
 focus assumption
 (try simp only [Act.put,List.setIfInBounds_toArray,List.set_cons_zero,List.set_cons_succ])
 refine take_litD (i:=25) (oi:=?_) (v:=?_) ?_ ?_ ?_ ?_ ?_ (Or.inl ⟨?_, ?_⟩) ?_ ?_
 rotate_left
 rotate_left
 focus (simp only [List.getElem?_toArray,List.getElem?_cons_succ,List.getElem?_cons_zero];rfl)
 focus kernel_rfl
 focus kernel_rfl
 focus kernel_rfl
 focus (exact fun _ _ _ h => h)
 focus rfl
 focus ((intro w hSw;(try dsimp only at hSw);go_simp);first | done | with_reducible rfl)
 focus assumption
 (try simp only [Act.put,List.setIfInBounds_toArray,List.set_cons_zero,List.set_cons_succ])
 refine take_litD (i:=26) (oi:=?_) (v:=?_) ?_ ?_ ?_ ?_ ?_ (Or.inl ⟨?_, ?_⟩) ?_ ?_
 rotate_left
 rotate_left
 focus (simp only [List.getElem?_toArray,List.getElem?_cons_succ,List.getElem?_cons_zero];rfl)
 focus kernel_rfl
 focus kernel_rfl
 focus kernel_rfl
 focus (exact fun _ _ _ h => h)
 focus rfl
 focus ((intro w hSw;(try dsimp only at hSw);go_simp);first | done | with_reducible rfl)
 focus assumption
 (try simp only [Act.put,List.setIfInBounds_toArray,List.set_cons_zero,List.set_cons_succ])
 refine take_litD (i:=27) (oi:=?_) (v:=?_) ?_ ?_ ?_ ?_ ?_ (Or.inl ⟨?_, ?_⟩) ?_ ?_
 rotate_left
 rotate_left
 focus (simp only [List.getElem?_toArray,List.getElem?_cons_succ,List.getElem?_cons_zero];rfl)
 focus kernel_rfl
 focus kernel_rfl
 focus kernel_rfl
 focus (exact fun _ _ _ h => h)
 focus rfl
 focus ((intro w hSw;(try dsimp only at hSw);go_simp);first | done | with_reducible rfl)
 focus assumption
 (try simp only [Act.put,List.setIfInBounds_toArray,List.set_cons_zero,List.set_cons_succ])
 refine take_litD (i:=28) (oi:=?_) (v:=?_) ?_ ?_ ?_ ?_ ?_ (Or.inl ⟨?_, ?_⟩) ?_ ?_
 rotate_left
 rotate_left
 focus (simp only [List.getElem?_toArray,List.getElem?_cons_succ,List.getElem?_cons_zero];rfl)
 focus kernel_rfl
 focus kernel_rfl
 focus kernel_rfl
 focus (exact fun _ _ _ h => h)
 focus rfl
 focus ((intro w hSw;(try dsimp only at hSw);go_simp);first | done | with_reducible rfl)
 focus assumption
 (try simp only [Act.put,List.setIfInBounds_toArray,List.set_cons_zero,List.set_cons_succ])
 refine take_litD (i:=29) (oi:=?_) (v:=?_) ?_ ?_ ?_ ?_ ?_ (Or.inl ⟨?_, ?_⟩) ?_ ?_
 rotate_left
 rotate_left
 focus (simp only [List.getElem?_toArray,List.getElem?_cons_succ,List.getElem?_cons_zero];rfl)
 focus kernel_rfl
 focus kernel_rfl
 focus kernel_rfl
 focus (exact fun _ _ _ h => h)
 focus rfl
 focus ((intro w hSw;(try dsimp only at hSw);go_simp);first | done | with_reducible rfl)
 focus assumption
 (try simp only [Act.put,List.setIfInBounds_toArray,List.set_cons_zero,List.set_cons_succ])
 refine take_litD (i:=30) (oi:=?_) (v:=?_) ?_ ?_ ?_ ?_ ?_ (Or.inl ⟨?_, ?_⟩) ?_ ?_
 rotate_left
 rotate_left
 focus (simp only [List.getElem?_toArray,List.getElem?_cons_succ,List.getElem?_cons_zero];rfl)
 focus kernel_rfl
 focus kernel_rfl
 focus kernel_rfl
 focus (exact fun _ _ _ h => h)
 focus rfl
 focus ((intro w hSw;(try dsimp only at hSw);go_simp);first | done | with_reducible rfl)
 focus assumption
 (try simp only [Act.put,List.setIfInBounds_toArray,List.set_cons_zero,List.set_cons_succ])
 refine take_litD (i:=31) (oi:=?_) (v:=?_) ?_ ?_ ?_ ?_ ?_ (Or.inl ⟨?_, ?_⟩) ?_ ?_
 rotate_left
 rotate_left
 focus (simp only [List.getElem?_toArray,List.getElem?_cons_succ,List.getElem?_cons_zero];rfl)
 focus kernel_rfl
 focus kernel_rfl
 focus kernel_rfl
 focus (exact fun _ _ _ h => h)
 focus rfl
 focus ((intro w hSw;(try dsimp only at hSw);go_simp);first | done | with_reducible rfl)
 focus assumption
 (try simp only [Act.put,List.setIfInBounds_toArray,List.set_cons_zero,List.set_cons_succ])
 refine take_litD (i:=32) (oi:=?_) (v:=?_) ?_ ?_ ?_ ?_ ?_ (Or.inl ⟨?_, ?_⟩) ?_ ?_
 rotate_left
 rotate_left
 focus (simp only [List.getElem?_toArray,List.getElem?_cons_succ,List.getElem?_cons_zero];rfl)
 focus kernel_rfl
 focus kernel_rfl
 focus kernel_rfl
 focus (exact fun _ _ _ h => h)
 focus rfl
 focus ((intro w hSw;(try dsimp only at hSw);go_simp);first | done | with_reducible rfl)
 focus assumption
 (try simp only [Act.put,List.setIfInBounds_toArray,List.set_cons_zero,List.set_cons_succ])
 refine wpAnyH_done (by kernel_rfl) ?_ _
 obtain ⟨W2,hW2⟩ : ∃ W2 : World,W2 = w7:=⟨_,rfl⟩
 have hbx : Below W.heap.size W W2:=by
  rw [hW2]
  (repeat' first|(with_reducible first|exact blR _ _|assumption|refine blD ?_|refine blN ?_ _)|((with_reducible first|refine blA ?_ ?_ _|refine blS ?_ ?_ _|refine blT (by assumption) ?_ ?_);focus (go_size;done)))
 subst hW2
 have hbxs:=hbx.size
 have j9:=k9.below hbx l9
 have j10:=k10.below hbx l10
 have j8:=k8.below hbx l8
 have hbm2 : Below w2.heap.size w2 W2:=m2.trans (hbx.mono (by omega))
 have hbm3 : Below w3.heap.size w3 W2:=m3.trans (hbx.mono (by omega))
 have hbm4 : Below w4.heap.size w4 W2:=m4.trans (hbx.mono (by omega))
 have mb2 : Below w.heap.size w W2:=mb.trans (hbx.mono (by omega))
 clear nc0 nc1 nc2 nc3 nc4 nc5 nc6 nc7 nc8 nc9 q9 q10 k9 k10 k8 k11 kR m2 m3 m4 m5 mb hbx HSN hb6 hb6c hb6f hb7 hb7c hb7f hHeld
 have g9:=j9.cell 0 rfl
 have g8:=j8.cell 0 rfl
 have f9:=j9.lt
 have f8:=j8.lt
 go_wp2_with fail
 go_ret
 exact ⟨rfl,by (repeat' first|(with_reducible first|exact blR _ _|assumption|refine blD ?_|refine blN ?_ _)|((with_reducible first|refine blA ?_ ?_ _|refine blS ?_ ?_ _|refine blT (by assumption) ?_ ?_);focus (go_size;done)))⟩
/-- Less of two numbers, as they are written -/
theorem less_lit (b : Bool) (c s : Nat) (b' : Bool) (c' s' : Nat) (hf : DForm b c s) (hf' : DForm b' c' s') (ho : 0 ≤ ordD b (unit c s) b' (unit c' s')) (A : Option Addr) (C : Nat) (A2 : Option Addr) (C2 : Nat) (B : Option Addr) (D : Nat) (B2 : Option Addr) (D2 : Nat) (w : World) (hT : Tabs w) (hx : VA w (nmD b c s) A C A2 C2) (hy : VA w (nmD b' c' s') B D B2 D2) :
  Calls Tryz.prog 21 #[.agg #[.int .i64 2,.bool false,.bool b,.int .u64 (wd c 1),.int .u64 (wd c 0),.int .i64 s,.string ⟨#[]⟩,.int .i64 0,.slice A 0 C,.slice A2 0 C2],.agg #[.int .i64 2,.bool false,.bool b',.int .u64 (wd c' 1),.int .u64 (wd c' 0),.int .i64 s',.string ⟨#[]⟩,.int .i64 0,.slice B 0 D,.slice B2 0 D2]] w fun e w' => e = .returned (.tuple #[.agg #[.int .i64 1,.bool false,.bool false,.int .u64 0,.int .u64 0,.int .i64 0,.string ⟨#[]⟩,.int .i64 0,.slice none 0 0,.slice none 0 0],.int .i64 0]) ∧ Below w.heap.size w w':=vless_no b c s b' c' s' A C A2 C2 B D B2 D2 w hT hf hf' hx hy ho
theorem same_lit (b : Bool) (c s : Nat) (A : Option Addr) (C : Nat) (A2 : Option Addr) (C2 : Nat) (B : Option Addr) (D : Nat) (B2 : Option Addr) (D2 : Nat) (w : World) (hx : VA w (nmD b c s) A C A2 C2) (hy : VA w (nmD b c s) B D B2 D2) :
  Calls Tryz.prog 12 #[.agg #[.int .i64 2,.bool false,.bool b,.int .u64 (wd c 1),.int .u64 (wd c 0),.int .i64 s,.string ⟨#[]⟩,.int .i64 0,.slice A 0 C,.slice A2 0 C2],.agg #[.int .i64 2,.bool false,.bool b,.int .u64 (wd c 1),.int .u64 (wd c 0),.int .i64 s,.string ⟨#[]⟩,.int .i64 0,.slice B 0 D,.slice B2 0 D2]] w fun e w' => e = .returned (.bool true) ∧ Below w.heap.size w w':=same_self (nmD b c s) A C A2 C2 B D B2 D2 w hx hy (by rw [nmD_size];decide)
set_option maxRecDepth 100000 in
set_option maxHeartbeats 4000000 in
theorem numbers_form (N O R V : Value) (n nn on vn NC OC RC VC0 : Nat) (NA OA RA VA0 : Option Addr) (hN : N = .slice NA nn NC) (hO : O = .slice OA on OC) (hR : R = .slice RA n RC) (hV : V = .slice VA0 vn VC0) (w : World) (HK : Hid (∀ W : World,Below w.heap.size w W → Calls Tryz.prog 9 #[] W fun e w' => e = .returned (.bool true) ∧ Below W.heap.size W w')) (h9 : LDec 9 VD.zero 2 (.agg #[N,O,R,V]) w) (h10 : LDec 10 VD.zero 2 (.agg #[N,O,R,V]) w) (h8 : LDec 8 VD.zero 2 (.agg #[N,O,R,V]) w) (h11 : LDec 11 VD.zero 2 (.agg #[N,O,R,V]) w) :
  Calls Tryz.prog 8 #[.agg #[N,O,R,V]] w fun e w' => e = .returned (.bool true) ∧ Below w.heap.size w w':=by
 subst hN hO hR hV
 unfold LDec at h9 h10 h8 h11
 have H9:=Lib.hid h9
 have H10:=Lib.hid h10
 have H8:=Lib.hid h8
 have H11:=Lib.hid h11
 clear h9 h10 h8 h11
 go_enter Tryz.func8,Tryz.ntmps8
 go_wp2_with (first | ((go_at_call 9;with_reducible refine (HK.out _ (by (repeat' first|(with_reducible first|exact blR _ _|assumption|refine blD ?_|refine blN ?_ _)|((with_reducible first|refine blA ?_ ?_ _|refine blS ?_ ?_ _|refine blT (by assumption) ?_ ?_);focus (go_size;done))))).mono ?_);rintro _ w1 ⟨rfl,hb1⟩;have hb1s:=hb1.size;(try simp only [wsA,wsS,wsD,wsN] at hb1s);obtain ⟨hb1c,hb1f⟩:=bcell hb1;(try have : w.heap.size < w1.heap.size:=by omega);(try have : w.heap.size + 1 < w1.heap.size:=by omega);(try have : w.heap.size + 1 + 1 < w1.heap.size:=by omega);(try have : w.heap.size + 1 + 1 + 1 < w1.heap.size:=by omega)) | (go_at_call 11;(with_reducible refine (H9.out _ (by (repeat' first|(with_reducible first|exact blR _ _|assumption|refine blD ?_|refine blN ?_ _)|((with_reducible first|refine blA ?_ ?_ _|refine blS ?_ ?_ _|refine blT (by assumption) ?_ ?_);focus (go_size;done))))).mono ?_);rintro _ w2 ⟨A9,C9,B9,D9,rfl,hv9,hbw2⟩;have HV9:=Lib.hid hv9.va;clear hv9;have hbw2s:=hbw2.size;(try simp only [World.size_alloc] at hbw2s);(try have : w.heap.size < w2.heap.size:=by omega);(try have : w.heap.size + 1 < w2.heap.size:=by omega);(try have : w.heap.size + 1 + 1 < w2.heap.size:=by omega);(try have : w.heap.size + 1 + 1 + 1 < w2.heap.size:=by omega);(try have : w1.heap.size < w2.heap.size:=by omega);(try have : w1.heap.size + 1 < w2.heap.size:=by omega);(try have : w1.heap.size + 1 + 1 < w2.heap.size:=by omega);(try have : w1.heap.size + 1 + 1 + 1 < w2.heap.size:=by omega);obtain ⟨hbw2c,hbw2f⟩:=bcell hbw2) | (go_at_call 11;(with_reducible refine (H10.out _ (by (repeat' first|(with_reducible first|exact blR _ _|assumption|refine blD ?_|refine blN ?_ _)|((with_reducible first|refine blA ?_ ?_ _|refine blS ?_ ?_ _|refine blT (by assumption) ?_ ?_);focus (go_size;done))))).mono ?_);rintro _ w3 ⟨A10,C10,B10,D10,rfl,hv10,hbw3⟩;have HV10:=Lib.hid hv10.va;clear hv10;have hbw3s:=hbw3.size;(try simp only [World.size_alloc] at hbw3s);(try have : w.heap.size < w3.heap.size:=by omega);(try have : w.heap.size + 1 < w3.heap.size:=by omega);(try have : w.heap.size + 1 + 1 < w3.heap.size:=by omega);(try have : w.heap.size + 1 + 1 + 1 < w3.heap.size:=by omega);(try have : w2.heap.size < w3.heap.size:=by omega);(try have : w2.heap.size + 1 < w3.heap.size:=by omega);(try have : w2.heap.size + 1 + 1 < w3.heap.size:=by omega);(try have : w2.heap.size + 1 + 1 + 1 < w3.heap.size:=by omega);obtain ⟨hbw3c,hbw3f⟩:=bcell hbw3) | ((go_at_call 11;(with_reducible refine (H8.out _ (by (repeat' first|(with_reducible first|exact blR _ _|assumption|refine blD ?_|refine blN ?_ _)|((with_reducible first|refine blA ?_ ?_ _|refine blS ?_ ?_ _|refine blT (by assumption) ?_ ?_);focus (go_size;done))))).mono ?_);rintro _ w4 ⟨A8,C8,B8,D8,rfl,hv8,hbw4⟩;have HV8:=Lib.hid hv8.va;clear hv8;have hbw4s:=hbw4.size;(try simp only [World.size_alloc] at hbw4s);(try have : w.heap.size < w4.heap.size:=by omega);(try have : w.heap.size + 1 < w4.heap.size:=by omega);(try have : w.heap.size + 1 + 1 < w4.heap.size:=by omega);(try have : w.heap.size + 1 + 1 + 1 < w4.heap.size:=by omega);(try have : w3.heap.size < w4.heap.size:=by omega);(try have : w3.heap.size + 1 < w4.heap.size:=by omega);(try have : w3.heap.size + 1 + 1 < w4.heap.size:=by omega);(try have : w3.heap.size + 1 + 1 + 1 < w4.heap.size:=by omega);obtain ⟨hbw4c,hbw4f⟩:=bcell hbw4);(try have : w2.heap.size < w4.heap.size:=by omega);(try have : w2.heap.size + 1 < w4.heap.size:=by omega);(try have : w2.heap.size + 1 + 1 < w4.heap.size:=by omega);(try have : w2.heap.size + 1 + 1 + 1 < w4.heap.size:=by omega)) | ((go_at_call 11;(with_reducible refine (H11.out _ (by (repeat' first|(with_reducible first|exact blR _ _|assumption|refine blD ?_|refine blN ?_ _)|((with_reducible first|refine blA ?_ ?_ _|refine blS ?_ ?_ _|refine blT (by assumption) ?_ ?_);focus (go_size;done))))).mono ?_);rintro _ w5 ⟨A11,C11,B11,D11,rfl,hv11,hbw5⟩;have HV11:=Lib.hid hv11.va;clear hv11;have hbw5s:=hbw5.size;(try simp only [World.size_alloc] at hbw5s);(try have : w.heap.size < w5.heap.size:=by omega);(try have : w.heap.size + 1 < w5.heap.size:=by omega);(try have : w.heap.size + 1 + 1 < w5.heap.size:=by omega);(try have : w.heap.size + 1 + 1 + 1 < w5.heap.size:=by omega);(try have : w4.heap.size < w5.heap.size:=by omega);(try have : w4.heap.size + 1 < w5.heap.size:=by omega);(try have : w4.heap.size + 1 + 1 < w5.heap.size:=by omega);(try have : w4.heap.size + 1 + 1 + 1 < w5.heap.size:=by omega);obtain ⟨hbw5c,hbw5f⟩:=bcell hbw5);(try have : w2.heap.size < w5.heap.size:=by omega);(try have : w2.heap.size + 1 < w5.heap.size:=by omega);(try have : w2.heap.size + 1 + 1 < w5.heap.size:=by omega);(try have : w2.heap.size + 1 + 1 + 1 < w5.heap.size:=by omega);(try have : w3.heap.size < w5.heap.size:=by omega);(try have : w3.heap.size + 1 < w5.heap.size:=by omega);(try have : w3.heap.size + 1 + 1 < w5.heap.size:=by omega);(try have : w3.heap.size + 1 + 1 + 1 < w5.heap.size:=by omega)))
 go_ret
 exact ⟨rfl,by (repeat' first|(with_reducible first|exact blR _ _|assumption|refine blD ?_|refine blN ?_ _)|((with_reducible first|refine blA ?_ ?_ _|refine blS ?_ ?_ _|refine blT (by assumption) ?_ ?_);focus (go_size;done)))⟩
set_option maxRecDepth 100000 in
set_option maxHeartbeats 8000000 in
theorem numbers_zero (N O R V : Value) (n nn on vn NC OC RC VC0 : Nat) (NA OA RA VA0 : Option Addr) (hN : N = .slice NA nn NC) (hO : O = .slice OA on OC) (hR : R = .slice RA n RC) (hV : V = .slice VA0 vn VC0) (w : World) (HK : Hid (∀ W : World,Below w.heap.size w W → Calls Tryz.prog 9 #[] W fun e w' => e = .returned (.bool true) ∧ Below W.heap.size W w')) (hT : Tabs w) (k : Nat) (hk : k ≤ 60) (hk1 : k ≠ 1) (bq : Bool) (HQ : Hid ((bq = true ∧ n = 0 ∧ 0 < vn ∧ k = 1) ∨ (bq = false ∧ ((n ≠ 0 ∧ k = n) ∨ (n = 0 ∧ vn = 0 ∧ k = 0))))) (hn6 : n ≤ 1048576) (hv6 : vn ≤ 1048576) (b : Bool) (c s : Nat) (b' : Bool) (c' s' : Nat) (d8 : VD) (hf : DForm b c s) (hf' : DForm b' c' s') (ho : 0 ≤ ordD b' (unit c' s') b (unit c s))
  (h9 : LDecV 9 (nV b (wd c 1) (wd c 0) s) (nmD b c s) 0 (.agg #[N,O,R,V]) w) (h10 : LDecV 10 (nV b' (wd c' 1) (wd c' 0) s') (nmD b' c' s') 0 (.agg #[N,O,R,V]) w) (h8 : LDecV 8 (fun A C A2 C2 => vargs d8 A C A2 C2) d8 0 (.agg #[N,O,R,V]) w) (h11 : LDecV 11 (nV false 0 k 0) (nd k) 0 (.agg #[N,O,R,V]) w) :
  Calls Tryz.prog 8 #[.agg #[N,O,R,V]] w fun e w' => e = .returned (.bool true) ∧ Below w.heap.size w w':=by
 have hle:=less_lit b' c' s' b c s hf' hf ho
 have HT:=Lib.hid hT
 obtain ⟨x1,hx1⟩ : ∃ y,y = wd c 1:=⟨_,rfl⟩
 obtain ⟨x0,hx0⟩ : ∃ y,y = wd c 0:=⟨_,rfl⟩
 obtain ⟨y1,hy1⟩ : ∃ y,y = wd c' 1:=⟨_,rfl⟩
 obtain ⟨y0,hy0⟩ : ∃ y,y = wd c' 0:=⟨_,rfl⟩
 simp only [← hx1,← hx0,← hy1,← hy0] at hle h9 h10
 have HLE:=Lib.hid hle
 clear hle hT hf hf' ho hx1 hx0 hy1 hy0
 subst hN hO hR hV
 unfold LDecV at h9 h10 h8 h11
 (try simp only [zV,nV] at h9 h10 h8 h11)
 have H9:=Lib.hid h9
 have H10:=Lib.hid h10
 have H8:=Lib.hid h8
 have H11:=Lib.hid h11
 clear h9 h10 h8 h11
 have hnc : (n : Int) ≤ 1048576:=by omega
 have hvc : (vn : Int) ≤ 1048576:=by omega
 have hkb : ((k : Int) != 1) = true:=by rw [bne_iff_ne];omega
 clear hk1
 go_enter Tryz.func8,Tryz.ntmps8
 go_upto_region 10 with (first | ((go_at_call 9;with_reducible refine (HK.out _ (by (repeat' first|(with_reducible first|exact blR _ _|assumption|refine blD ?_|refine blN ?_ _)|((with_reducible first|refine blA ?_ ?_ _|refine blS ?_ ?_ _|refine blT (by assumption) ?_ ?_);focus (go_size;done))))).mono ?_);rintro _ w1 ⟨rfl,hb1⟩;have hb1s:=hb1.size;(try simp only [wsA,wsS,wsD,wsN] at hb1s);obtain ⟨hb1c,hb1f⟩:=bcell hb1;(try have : w.heap.size < w1.heap.size:=by omega);(try have : w.heap.size + 1 < w1.heap.size:=by omega);(try have : w.heap.size + 1 + 1 < w1.heap.size:=by omega);(try have : w.heap.size + 1 + 1 + 1 < w1.heap.size:=by omega)) | (go_at_call 11;(with_reducible refine (H9.out _ (by (repeat' first|(with_reducible first|exact blR _ _|assumption|refine blD ?_|refine blN ?_ _)|((with_reducible first|refine blA ?_ ?_ _|refine blS ?_ ?_ _|refine blT (by assumption) ?_ ?_);focus (go_size;done))))).mono ?_);rintro _ w2 ⟨A9,C9,B9,D9,rfl,hv9,hbw2⟩;have HV9:=Lib.hid hv9.va;clear hv9;have hbw2s:=hbw2.size;(try simp only [World.size_alloc] at hbw2s);(try have : w.heap.size < w2.heap.size:=by omega);(try have : w.heap.size + 1 < w2.heap.size:=by omega);(try have : w.heap.size + 1 + 1 < w2.heap.size:=by omega);(try have : w.heap.size + 1 + 1 + 1 < w2.heap.size:=by omega);(try have : w1.heap.size < w2.heap.size:=by omega);(try have : w1.heap.size + 1 < w2.heap.size:=by omega);(try have : w1.heap.size + 1 + 1 < w2.heap.size:=by omega);(try have : w1.heap.size + 1 + 1 + 1 < w2.heap.size:=by omega);obtain ⟨hbw2c,hbw2f⟩:=bcell hbw2) | (go_at_call 11;(with_reducible refine (H10.out _ (by (repeat' first|(with_reducible first|exact blR _ _|assumption|refine blD ?_|refine blN ?_ _)|((with_reducible first|refine blA ?_ ?_ _|refine blS ?_ ?_ _|refine blT (by assumption) ?_ ?_);focus (go_size;done))))).mono ?_);rintro _ w3 ⟨A10,C10,B10,D10,rfl,hv10,hbw3⟩;have HV10:=Lib.hid hv10.va;clear hv10;have hbw3s:=hbw3.size;(try simp only [World.size_alloc] at hbw3s);(try have : w.heap.size < w3.heap.size:=by omega);(try have : w.heap.size + 1 < w3.heap.size:=by omega);(try have : w.heap.size + 1 + 1 < w3.heap.size:=by omega);(try have : w.heap.size + 1 + 1 + 1 < w3.heap.size:=by omega);(try have : w2.heap.size < w3.heap.size:=by omega);(try have : w2.heap.size + 1 < w3.heap.size:=by omega);(try have : w2.heap.size + 1 + 1 < w3.heap.size:=by omega);(try have : w2.heap.size + 1 + 1 + 1 < w3.heap.size:=by omega);obtain ⟨hbw3c,hbw3f⟩:=bcell hbw3) | ((go_at_call 11;(with_reducible refine (H8.out _ (by (repeat' first|(with_reducible first|exact blR _ _|assumption|refine blD ?_|refine blN ?_ _)|((with_reducible first|refine blA ?_ ?_ _|refine blS ?_ ?_ _|refine blT (by assumption) ?_ ?_);focus (go_size;done))))).mono ?_);rintro _ w4 ⟨A8,C8,B8,D8,rfl,hv8,hbw4⟩;have HV8:=Lib.hid hv8.va;clear hv8;have hbw4s:=hbw4.size;(try simp only [World.size_alloc] at hbw4s);(try have : w.heap.size < w4.heap.size:=by omega);(try have : w.heap.size + 1 < w4.heap.size:=by omega);(try have : w.heap.size + 1 + 1 < w4.heap.size:=by omega);(try have : w.heap.size + 1 + 1 + 1 < w4.heap.size:=by omega);(try have : w3.heap.size < w4.heap.size:=by omega);(try have : w3.heap.size + 1 < w4.heap.size:=by omega);(try have : w3.heap.size + 1 + 1 < w4.heap.size:=by omega);(try have : w3.heap.size + 1 + 1 + 1 < w4.heap.size:=by omega);obtain ⟨hbw4c,hbw4f⟩:=bcell hbw4);(try have : w2.heap.size < w4.heap.size:=by omega);(try have : w2.heap.size + 1 < w4.heap.size:=by omega);(try have : w2.heap.size + 1 + 1 < w4.heap.size:=by omega);(try have : w2.heap.size + 1 + 1 + 1 < w4.heap.size:=by omega)) | ((go_at_call 11;(with_reducible refine (H11.out _ (by (repeat' first|(with_reducible first|exact blR _ _|assumption|refine blD ?_|refine blN ?_ _)|((with_reducible first|refine blA ?_ ?_ _|refine blS ?_ ?_ _|refine blT (by assumption) ?_ ?_);focus (go_size;done))))).mono ?_);rintro _ w5 ⟨A11,C11,B11,D11,rfl,hv11,hbw5⟩;have HV11:=Lib.hid hv11.va;clear hv11;have hbw5s:=hbw5.size;(try simp only [World.size_alloc] at hbw5s);(try have : w.heap.size < w5.heap.size:=by omega);(try have : w.heap.size + 1 < w5.heap.size:=by omega);(try have : w.heap.size + 1 + 1 < w5.heap.size:=by omega);(try have : w.heap.size + 1 + 1 + 1 < w5.heap.size:=by omega);(try have : w4.heap.size < w5.heap.size:=by omega);(try have : w4.heap.size + 1 < w5.heap.size:=by omega);(try have : w4.heap.size + 1 + 1 < w5.heap.size:=by omega);(try have : w4.heap.size + 1 + 1 + 1 < w5.heap.size:=by omega);obtain ⟨hbw5c,hbw5f⟩:=bcell hbw5);(try have : w2.heap.size < w5.heap.size:=by omega);(try have : w2.heap.size + 1 < w5.heap.size:=by omega);(try have : w2.heap.size + 1 + 1 < w5.heap.size:=by omega);(try have : w2.heap.size + 1 + 1 + 1 < w5.heap.size:=by omega);(try have : w3.heap.size < w5.heap.size:=by omega);(try have : w3.heap.size + 1 < w5.heap.size:=by omega);(try have : w3.heap.size + 1 + 1 < w5.heap.size:=by omega);(try have : w3.heap.size + 1 + 1 + 1 < w5.heap.size:=by omega)))
 generalize hW : w5.alloc _ = W
 have kR : Bk W w.heap.size 26 [.slice NA nn NC,.slice OA on OC,.slice RA n RC,.slice VA0 vn VC0]:=by
  rw [← hW]
  (repeat (first|(with_reducible assumption)|((with_reducible refine bkW ?_);(first|rfl|(simp only [wsA,wsS,wsD,wsN];done)))|(with_reducible first|refine bkA ?_ _|refine bkD ?_|refine bkN ?_ _)|((with_reducible refine bkF ?_ ?_ _);focus (simp only [];omega))|((with_reducible refine bkB (by assumption) ?_ ?_);focus (go_size;done))))
 have k9 : Bk W w2.heap.size 34 [.int .i64 2,.bool false,.bool b,.int .u64 x1,.int .u64 x0,.int .i64 (s : Int),.string ⟨#[]⟩,.int .i64 0,.slice A9 0 C9,.slice B9 0 D9]:=by
  rw [← hW]
  (repeat (first|(with_reducible assumption)|((with_reducible refine bkW ?_);(first|rfl|(simp only [wsA,wsS,wsD,wsN];done)))|(with_reducible first|refine bkA ?_ _|refine bkD ?_|refine bkN ?_ _)|((with_reducible refine bkF ?_ ?_ _);focus (simp only [];omega))|((with_reducible refine bkB (by assumption) ?_ ?_);focus (go_size;done))))
 have k10 : Bk W w3.heap.size 34 [.int .i64 2,.bool false,.bool b',.int .u64 y1,.int .u64 y0,.int .i64 (s' : Int),.string ⟨#[]⟩,.int .i64 0,.slice A10 0 C10,.slice B10 0 D10]:=by
  rw [← hW]
  (repeat (first|(with_reducible assumption)|((with_reducible refine bkW ?_);(first|rfl|(simp only [wsA,wsS,wsD,wsN];done)))|(with_reducible first|refine bkA ?_ _|refine bkD ?_|refine bkN ?_ _)|((with_reducible refine bkF ?_ ?_ _);focus (simp only [];omega))|((with_reducible refine bkB (by assumption) ?_ ?_);focus (go_size;done))))
 have k8 : Bk W w4.heap.size 34 [.int .i64 d8.s.kind,.bool d8.s.yes,.bool d8.s.neg,.int .u64 (wd d8.s.coef 1),.int .u64 (wd d8.s.coef 0),.int .i64 d8.s.sc,.string ⟨d8.s.text.toArray⟩,.int .i64 d8.s.day,.slice A8 d8.list.length C8,.slice B8 d8.names.length D8]:=by
  rw [← hW]
  (repeat (first|(with_reducible assumption)|((with_reducible refine bkW ?_);(first|rfl|(simp only [wsA,wsS,wsD,wsN];done)))|(with_reducible first|refine bkA ?_ _|refine bkD ?_|refine bkN ?_ _)|((with_reducible refine bkF ?_ ?_ _);focus (simp only [];omega))|((with_reducible refine bkB (by assumption) ?_ ?_);focus (go_size;done))))
 have k11 : Bk W w5.heap.size 34 [.int .i64 2,.bool false,.bool false,.int .u64 0,.int .u64 k,.int .i64 0,.string ⟨#[]⟩,.int .i64 0,.slice A11 0 C11,.slice B11 0 D11]:=by
  rw [← hW]
  (repeat (first|(with_reducible assumption)|((with_reducible refine bkW ?_);(first|rfl|(simp only [wsA,wsS,wsD,wsN];done)))|(with_reducible first|refine bkA ?_ _|refine bkD ?_|refine bkN ?_ _)|((with_reducible refine bkF ?_ ?_ _);focus (simp only [];omega))|((with_reducible refine bkB (by assumption) ?_ ?_);focus (go_size;done))))
 have m2 : Below w2.heap.size w2 W:=by
  rw [← hW]
  (repeat' first|(with_reducible first|exact blR _ _|assumption|refine blD ?_|refine blN ?_ _)|((with_reducible first|refine blA ?_ ?_ _|refine blS ?_ ?_ _|refine blT (by assumption) ?_ ?_);focus (go_size;done)))
 have m3 : Below w3.heap.size w3 W:=by
  rw [← hW]
  (repeat' first|(with_reducible first|exact blR _ _|assumption|refine blD ?_|refine blN ?_ _)|((with_reducible first|refine blA ?_ ?_ _|refine blS ?_ ?_ _|refine blT (by assumption) ?_ ?_);focus (go_size;done)))
 have m4 : Below w4.heap.size w4 W:=by
  rw [← hW]
  (repeat' first|(with_reducible first|exact blR _ _|assumption|refine blD ?_|refine blN ?_ _)|((with_reducible first|refine blA ?_ ?_ _|refine blS ?_ ?_ _|refine blT (by assumption) ?_ ?_);focus (go_size;done)))
 have m5 : Below w5.heap.size w5 W:=by
  rw [← hW]
  (repeat' first|(with_reducible first|exact blR _ _|assumption|refine blD ?_|refine blN ?_ _)|((with_reducible first|refine blA ?_ ?_ _|refine blS ?_ ?_ _|refine blT (by assumption) ?_ ?_);focus (go_size;done)))
 have mb : Below w.heap.size w W:=by
  rw [← hW]
  (repeat' first|(with_reducible first|exact blR _ _|assumption|refine blD ?_|refine blN ?_ _)|((with_reducible first|refine blA ?_ ?_ _|refine blS ?_ ?_ _|refine blT (by assumption) ?_ ?_);focus (go_size;done)))
 clear hW hb1 hb1c hb1f hbw2 hbw2c hbw2f hbw3 hbw3c hbw3f hbw4 hbw4c hbw4f hbw5 hbw5c hbw5f
 go_cut [72] from 65 (fun s72 wx => s72 = .bool bq ∧ Hid (W = wx))
 case first =>
  have r0:=kR.cell 3 rfl
  rcases HQ.out with ⟨rfl,q1,q2,q3⟩ | ⟨rfl,q1⟩
  ·have e1 : ((n : Int) == 0) = true:=by rw [beq_iff_eq];omega
   have e2 : (0 : Int) < (vn : Int):=by omega
   clear q1 q3
   go_wp2_with fail
   go_meet
   exact ⟨rfl,Lib.hid rfl⟩
  ·rcases q1 with ⟨q1,q5⟩ | ⟨q1,q2,q5⟩
   ·have e1 : ((n : Int) == 0) = false:=by rw [beq_eq_false_iff_ne];omega
    clear q1 q5
    go_wp2_with fail
    go_meet
    exact ⟨rfl,Lib.hid rfl⟩
   ·have e1 : ((n : Int) == 0) = true:=by rw [beq_iff_eq];omega
    have e2 : ¬ (0 : Int) < (vn : Int):=by omega
    have e3 : ¬ 0 < vn:=by omega
    clear q1 q2 q5
    go_wp2_with fail
    go_meet
    exact ⟨rfl,Lib.hid rfl⟩
 case rest =>
 obtain ⟨rfl,hwc⟩:=hcut
 obtain rfl:=hwc.out
 go_upto_if 72 with (fail)
 go_cut [11] from 73 (fun s11 wx => s11 = .int .i64 (k : Int) ∧ Hid (W = wx))
 case first =>
  rcases HQ.out with ⟨rfl,q1,q2,q3⟩ | ⟨rfl,q1⟩
  ·have HQ3:=Lib.hid q3
   clear q1 q2 q3
   go_wp2_with fail
   go_meet
   exact ⟨by rw [HQ3.out];rfl,Lib.hid rfl⟩
  ·have HQ3 : Hid (k = n):=Lib.hid (by omega)
   clear q1
   go_wp2_with fail
   go_meet
   exact ⟨by rw [HQ3.out],Lib.hid rfl⟩
 case rest =>
 obtain ⟨rfl,hwc⟩:=hcut
 obtain rfl:=hwc.out
 have hk0 : (0 : Int) ≤ (k : Int):=by omega
 have hk6 : (k : Int) ≤ 60:=by omega
 have hwk : IntKind.u64.wrap (k : Int) = k:=IntWalk.u64_in _ (by omega)
 have HSN:=Lib.hid (fun (X : World) (hX : Below w5.heap.size w5 X) => same_nd hk A11 C11 B11 D11 X (va_below HV11.out hX))
 have l9:=k9.lt
 have l10:=k10.lt
 have l8:=k8.lt
 have l11:=k11.lt
 have lR:=kR.lt
 have q9:=k9.cell 0 rfl
 have q10:=k10.cell 0 rfl
 have nc0:=k11.cell 0 rfl
 have nc1:=k11.cell 1 rfl
 have nc2:=k11.cell 2 rfl
 have nc3:=k11.cell 3 rfl
 have nc4:=k11.cell 4 rfl
 have nc5:=k11.cell 5 rfl
 have nc6:=k11.cell 6 rfl
 have nc7:=k11.cell 7 rfl
 have nc8:=k11.cell 8 rfl
 have nc9:=k11.cell 9 rfl
 have mWs:=mb.size
 go_wp2_with fail
 refine wp_region_held_drew (S:=(fun w' => w'.cell? ⟨w2.heap.size,0,none⟩ = some (.int .i64 2) ∧ w'.cell? ⟨w3.heap.size,0,none⟩ = some (.int .i64 2) ∧ w'.cell? ⟨w5.heap.size,0,none⟩ = some (.int .i64 2) ∧ w'.cell? ⟨w5.heap.size,1,none⟩ = some (.bool false) ∧ w'.cell? ⟨w5.heap.size,2,none⟩ = some (.bool false) ∧ w'.cell? ⟨w5.heap.size,3,none⟩ = some (.int .u64 0) ∧ w'.cell? ⟨w5.heap.size,4,none⟩ = some (.int .u64 (k : Int)) ∧ w'.cell? ⟨w5.heap.size,5,none⟩ = some (.int .i64 0) ∧ w'.cell? ⟨w5.heap.size,6,none⟩ = some (.string ⟨#[]⟩) ∧ w'.cell? ⟨w5.heap.size,7,none⟩ = some (.int .i64 0) ∧ w'.cell? ⟨w5.heap.size,8,none⟩ = some (.slice A11 0 C11) ∧ w'.cell? ⟨w5.heap.size,9,none⟩ = some (.slice B11 0 D11))) (by kernel_rfl) ?_ (fun hHeld => ?_)
 focus (first | (go_keep;done) | (simp [go_sem];done) | ((try dsimp only);(repeat' apply And.intro) <;> (first | (with_reducible assumption) | ((rw [World.cell?_alloc_lt _ _ _ (by show _ < _;omega)]);go_split_ands;(first | with_reducible assumption | (refine (World.cell?_alloc_lt _ _ _ (by show _ < _;omega)).symm.trans ?_;with_reducible assumption))) | ((rw [World.cell?_setCell_other _ _ _ _ (by intro e;injection e;omega)]);with_reducible assumption) | (go_keep;done) | (simp [go_sem];done) | (simp (disch:=go_size) [*,World.cell?_alloc_some,World.cell?_setCell_far];done))))
 refine take_litD (i:=0) (oi:=?_) (v:=?_) ?_ ?_ ?_ ?_ ?_ (Or.inl ⟨?_, ?_⟩) ?_ ?_
 rotate_left
 rotate_left
 focus (simp only [List.getElem?_toArray,List.getElem?_cons_succ,List.getElem?_cons_zero];rfl)
 focus kernel_rfl
 focus kernel_rfl
 focus kernel_rfl
 focus (exact fun _ _ _ h => h)
 focus rfl
 focus ((intro w hSw;(try dsimp only at hSw);go_simp);first | done | with_reducible rfl)
 focus assumption
 (try simp only [Act.put,List.setIfInBounds_toArray,List.set_cons_zero,List.set_cons_succ])
 refine take_litD (i:=1) (oi:=?_) (v:=?_) ?_ ?_ ?_ ?_ ?_ (Or.inl ⟨?_, ?_⟩) ?_ ?_
 rotate_left
 rotate_left
 focus (simp only [List.getElem?_toArray,List.getElem?_cons_succ,List.getElem?_cons_zero];rfl)
 focus kernel_rfl
 focus kernel_rfl
 focus kernel_rfl
 focus (exact fun _ _ _ h => h)
 focus rfl
 focus ((intro w hSw;(try dsimp only at hSw);go_simp);first | done | with_reducible rfl)
 focus assumption
 (try simp only [Act.put,List.setIfInBounds_toArray,List.set_cons_zero,List.set_cons_succ])
 refine take_litD (i:=2) (oi:=?_) (v:=?_) ?_ ?_ ?_ ?_ ?_ (Or.inl ⟨?_, ?_⟩) ?_ ?_
 rotate_left
 rotate_left
 focus (simp only [List.getElem?_toArray,List.getElem?_cons_succ,List.getElem?_cons_zero];rfl)
 focus kernel_rfl
 focus kernel_rfl
 focus kernel_rfl
 focus (exact fun _ _ _ h => h)
 focus rfl
 focus ((intro w hSw;(try dsimp only at hSw);go_simp);first | done | with_reducible rfl)
 focus assumption
 (try simp only [Act.put,List.setIfInBounds_toArray,List.set_cons_zero,List.set_cons_succ])
 refine take_litD (i:=3) (oi:=?_) (v:=?_) ?_ ?_ ?_ ?_ ?_ (Or.inl ⟨?_, ?_⟩) ?_ ?_
 rotate_left
 rotate_left
 focus (simp only [List.getElem?_toArray,List.getElem?_cons_succ,List.getElem?_cons_zero];rfl)
 focus kernel_rfl
 focus kernel_rfl
 focus kernel_rfl
 focus (exact fun _ _ _ h => h)
 focus rfl
 focus ((intro w hSw;(try dsimp only at hSw);go_simp);first | done | with_reducible rfl)
 focus assumption
 (try simp only [Act.put,List.setIfInBounds_toArray,List.set_cons_zero,List.set_cons_succ])
 refine take_litD (i:=4) (oi:=?_) (v:=?_) ?_ ?_ ?_ ?_ ?_ (Or.inl ⟨?_, ?_⟩) ?_ ?_
 rotate_left
 rotate_left
 focus (simp only [List.getElem?_toArray,List.getElem?_cons_succ,List.getElem?_cons_zero];rfl)
 focus kernel_rfl
 focus kernel_rfl
 focus kernel_rfl
 focus (exact fun _ _ _ h => h)
 focus rfl
 focus ((intro w hSw;(try dsimp only at hSw);go_simp);first | done | with_reducible rfl)
 focus assumption
 (try simp only [Act.put,List.setIfInBounds_toArray,List.set_cons_zero,List.set_cons_succ])
 refine take_litD (i:=5) (oi:=?_) (v:=?_) ?_ ?_ ?_ ?_ ?_ (Or.inl ⟨?_, ?_⟩) ?_ ?_
 rotate_left
 rotate_left
 focus (simp only [List.getElem?_toArray,List.getElem?_cons_succ,List.getElem?_cons_zero];rfl)
 focus kernel_rfl
 focus kernel_rfl
 focus kernel_rfl
 focus (exact fun _ _ _ h => h)
 focus rfl
 focus ((intro w hSw;(try dsimp only at hSw);go_simp);first | done | with_reducible rfl)
 focus assumption
 (try simp only [Act.put,List.setIfInBounds_toArray,List.set_cons_zero,List.set_cons_succ])
 refine take_litD (i:=6) (oi:=?_) (v:=?_) ?_ ?_ ?_ ?_ ?_ (Or.inl ⟨?_, ?_⟩) ?_ ?_
 rotate_left
 rotate_left
 focus (simp only [List.getElem?_toArray,List.getElem?_cons_succ,List.getElem?_cons_zero];rfl)
 focus kernel_rfl
 focus kernel_rfl
 focus kernel_rfl
 focus (exact fun _ _ _ h => h)
 focus rfl
 focus ((intro w hSw;(try dsimp only at hSw);go_simp);first | done | with_reducible rfl)
 focus assumption
 (try simp only [Act.put,List.setIfInBounds_toArray,List.set_cons_zero,List.set_cons_succ])
 refine take_litD (i:=7) (oi:=?_) (v:=?_) ?_ ?_ ?_ ?_ ?_ (Or.inl ⟨?_, ?_⟩) ?_ ?_
 rotate_left
 rotate_left
 focus (simp only [List.getElem?_toArray,List.getElem?_cons_succ,List.getElem?_cons_zero];rfl)
 focus kernel_rfl
 focus kernel_rfl
 focus kernel_rfl
 focus (exact fun _ _ _ h => h)
 focus rfl
 focus ((intro w hSw;(try dsimp only at hSw);go_simp);first | done | with_reducible rfl)
 focus assumption
 (try simp only [Act.put,List.setIfInBounds_toArray,List.set_cons_zero,List.set_cons_succ])
 refine take_litD (i:=8) (oi:=?_) (v:=?_) ?_ ?_ ?_ ?_ ?_ (Or.inl ⟨?_, ?_⟩) ?_ ?_
 rotate_left
 rotate_left
 focus (simp only [List.getElem?_toArray,List.getElem?_cons_succ,List.getElem?_cons_zero];rfl)
 focus kernel_rfl
 focus kernel_rfl
 focus kernel_rfl
 focus (exact fun _ _ _ h => h)
 focus rfl
 focus ((intro w hSw;(try dsimp only at hSw);go_simp);first | done | with_reducible rfl)
 focus assumption
 (try simp only [Act.put,List.setIfInBounds_toArray,List.set_cons_zero,List.set_cons_succ])
 refine take_litD (i:=9) (oi:=?_) (v:=?_) ?_ ?_ ?_ ?_ ?_ (Or.inl ⟨?_, ?_⟩) ?_ ?_
 rotate_left
 rotate_left
 focus (simp only [List.getElem?_toArray,List.getElem?_cons_succ,List.getElem?_cons_zero];rfl)
 focus kernel_rfl
 focus kernel_rfl
 focus kernel_rfl
 focus (exact fun _ _ _ h => h)
 focus rfl
 focus ((intro w hSw;(try dsimp only at hSw);go_simp);first | done | with_reducible rfl)
 focus assumption
 (try simp only [Act.put,List.setIfInBounds_toArray,List.set_cons_zero,List.set_cons_succ])
 refine take_litD (i:=10) (oi:=?_) (v:=?_) ?_ ?_ ?_ ?_ ?_ (Or.inl ⟨?_, ?_⟩) ?_ ?_
 rotate_left
 rotate_left
 focus (simp only [List.getElem?_toArray,List.getElem?_cons_succ,List.getElem?_cons_zero];rfl)
 focus kernel_rfl
 focus kernel_rfl
 focus kernel_rfl
 focus (exact fun _ _ _ h => h)
 focus rfl
 focus ((intro w hSw;(try dsimp only at hSw);go_simp);first | done | with_reducible rfl)
 focus assumption
 (try simp only [Act.put,List.setIfInBounds_toArray,List.set_cons_zero,List.set_cons_succ])
 refine take_litD (i:=11) (oi:=?_) (v:=?_) ?_ ?_ ?_ ?_ ?_ (Or.inl ⟨?_, ?_⟩) ?_ ?_
 rotate_left
 rotate_left
 focus (simp only [List.getElem?_toArray,List.getElem?_cons_succ,List.getElem?_cons_zero];rfl)
 focus kernel_rfl
 focus kernel_rfl
 focus kernel_rfl
 focus (exact fun _ _ _ h => h)
 focus rfl
 focus ((intro w hSw;(try dsimp only at hSw);go_simp);first | done | with_reducible rfl)
 focus assumption
 (try simp only [Act.put,List.setIfInBounds_toArray,List.set_cons_zero,List.set_cons_succ])
 refine take_litD (i:=12) (oi:=?_) (v:=?_) ?_ ?_ ?_ ?_ ?_ (Or.inl ⟨?_, ?_⟩) ?_ ?_
 rotate_left
 rotate_left
 focus (simp only [List.getElem?_toArray,List.getElem?_cons_succ,List.getElem?_cons_zero];rfl)
 focus kernel_rfl
 focus kernel_rfl
 focus kernel_rfl
 focus (exact fun _ _ _ h => h)
 focus rfl
 focus ((intro w hSw;(try dsimp only at hSw);go_simp);first | done | with_reducible rfl)
 focus assumption
 (try simp only [Act.put,List.setIfInBounds_toArray,List.set_cons_zero,List.set_cons_succ])
 refine take_litD (i:=13) (oi:=?_) (v:=?_) ?_ ?_ ?_ ?_ ?_ (Or.inl ⟨?_, ?_⟩) ?_ ?_
 rotate_left
 rotate_left
 focus (simp only [List.getElem?_toArray,List.getElem?_cons_succ,List.getElem?_cons_zero];rfl)
 focus kernel_rfl
 focus kernel_rfl
 focus kernel_rfl
 focus (exact fun _ _ _ h => h)
 focus rfl
 focus ((intro w hSw;(try dsimp only at hSw);go_simp);first | done | with_reducible rfl)
 focus assumption
 (try simp only [Act.put,List.setIfInBounds_toArray,List.set_cons_zero,List.set_cons_succ])
 refine take_litD (i:=14) (oi:=?_) (v:=undef) ?_ ?_ ?_ ?_ ?_ (Or.inr ⟨?_,rfl⟩) ?_ ?_
 rotate_left
 focus (simp only [List.getElem?_toArray,List.getElem?_cons_succ,List.getElem?_cons_zero];rfl)
 focus kernel_rfl
 focus kernel_rfl
 focus kernel_rfl
 focus (exact fun _ _ _ h => h)
 focus rfl
 focus assumption
 (try simp only [Act.put,List.setIfInBounds_toArray,List.set_cons_zero,List.set_cons_succ])
 refine take_litD (i:=15) (oi:=?_) (v:=undef) ?_ ?_ ?_ ?_ ?_ (Or.inr ⟨?_,rfl⟩) ?_ ?_
 rotate_left
 focus (simp only [List.getElem?_toArray,List.getElem?_cons_succ,List.getElem?_cons_zero];rfl)
 focus kernel_rfl
 focus kernel_rfl
 focus kernel_rfl
 focus (exact fun _ _ _ h => h)
 focus rfl
 focus assumption
 (try simp only [Act.put,List.setIfInBounds_toArray,List.set_cons_zero,List.set_cons_succ])
 refine take_litD (i:=16) (oi:=?_) (v:=?_) ?_ ?_ ?_ ?_ ?_ (Or.inl ⟨?_, ?_⟩) ?_ ?_
 rotate_left
 rotate_left
 focus (simp only [List.getElem?_toArray,List.getElem?_cons_succ,List.getElem?_cons_zero];rfl)
 focus kernel_rfl
 focus kernel_rfl
 focus kernel_rfl
 focus (exact fun _ _ _ h => h)
 focus rfl
 focus ((intro w hSw;(try dsimp only at hSw);go_simp);first | done | with_reducible rfl)
 focus assumption
 (try simp only [Act.put,List.setIfInBounds_toArray,List.set_cons_zero,List.set_cons_succ])
 refine take_litD (i:=17) (oi:=?_) (v:=?_) ?_ ?_ ?_ ?_ ?_ (Or.inl ⟨?_, ?_⟩) ?_ ?_
 rotate_left
 rotate_left
 focus (simp only [List.getElem?_toArray,List.getElem?_cons_succ,List.getElem?_cons_zero];rfl)
 focus kernel_rfl
 focus kernel_rfl
 focus kernel_rfl
 focus (exact fun _ _ _ h => h)
 focus rfl
 focus ((intro w hSw;(try dsimp only at hSw);go_simp);first | done | with_reducible rfl)
 focus assumption
 (try simp only [Act.put,List.setIfInBounds_toArray,List.set_cons_zero,List.set_cons_succ])
 refine take_litD (i:=18) (oi:=?_) (v:=?_) ?_ ?_ ?_ ?_ ?_ (Or.inl ⟨?_, ?_⟩) ?_ ?_
 rotate_left
 rotate_left
 focus (simp only [List.getElem?_toArray,List.getElem?_cons_succ,List.getElem?_cons_zero];rfl)
 focus kernel_rfl
 focus kernel_rfl
 focus kernel_rfl
 focus (exact fun _ _ _ h => h)
 focus rfl
 focus ((intro w hSw;(try dsimp only at hSw);go_simp);first | done | with_reducible rfl)
 focus assumption
 (try simp only [Act.put,List.setIfInBounds_toArray,List.set_cons_zero,List.set_cons_succ])
 refine take_litD (i:=19) (oi:=?_) (v:=?_) ?_ ?_ ?_ ?_ ?_ (Or.inl ⟨?_, ?_⟩) ?_ ?_
 rotate_left
 rotate_left
 focus (simp only [List.getElem?_toArray,List.getElem?_cons_succ,List.getElem?_cons_zero];rfl)
 focus kernel_rfl
 focus kernel_rfl
 focus kernel_rfl
 focus (exact fun _ _ _ h => h)
 focus rfl
 focus ((intro w hSw;(try dsimp only at hSw);go_simp);first | done | with_reducible rfl)
 focus assumption
 (try simp only [Act.put,List.setIfInBounds_toArray,List.set_cons_zero,List.set_cons_succ])
 refine take_litD (i:=20) (oi:=?_) (v:=?_) ?_ ?_ ?_ ?_ ?_ (Or.inl ⟨?_, ?_⟩) ?_ ?_
 rotate_left
 rotate_left
 focus (simp only [List.getElem?_toArray,List.getElem?_cons_succ,List.getElem?_cons_zero];rfl)
 focus kernel_rfl
 focus kernel_rfl
 focus kernel_rfl
 focus (exact fun _ _ _ h => h)
 focus rfl
 focus ((intro w hSw;(try dsimp only at hSw);go_simp);first | done | with_reducible rfl)
 focus assumption
 (try simp only [Act.put,List.setIfInBounds_toArray,List.set_cons_zero,List.set_cons_succ])
 refine take_litD (i:=21) (oi:=?_) (v:=?_) ?_ ?_ ?_ ?_ ?_ (Or.inl ⟨?_, ?_⟩) ?_ ?_
 rotate_left
 rotate_left
 focus (simp only [List.getElem?_toArray,List.getElem?_cons_succ,List.getElem?_cons_zero];rfl)
 focus kernel_rfl
 focus kernel_rfl
 focus kernel_rfl
 focus (exact fun _ _ _ h => h)
 focus rfl
 focus ((intro w hSw;(try dsimp only at hSw);go_simp);first | done | with_reducible rfl)
 focus assumption
 (try simp only [Act.put,List.setIfInBounds_toArray,List.set_cons_zero,List.set_cons_succ])
 refine wpAnyH_ready (rs:=[22]) (by kernel_rfl) (by simp) ?_
 refine AllReadyH.cons (o:=_) rfl (fun K hK => ?_) AllReadyH.nil
 go_simp
 ((go_at_call 20;with_reducible refine (num18_any (k : Int) _).mono ?_);rintro _ w6 ⟨rfl,hb6⟩;have hb6s:=hb6.size;(try simp only [wsA,wsS,wsD,wsN] at hb6s);obtain ⟨hb6c,hb6f⟩:=bcell hb6;(try have : w.heap.size < w6.heap.size:=by omega);(try have : w.heap.size + 1 < w6.heap.size:=by omega);(try have : w.heap.size + 1 + 1 < w6.heap.size:=by omega);(try have : w.heap.size + 1 + 1 + 1 < w6.heap.size:=by omega);(try have : w2.heap.size < w6.heap.size:=by omega);(try have : w2.heap.size + 1 < w6.heap.size:=by omega);(try have : w2.heap.size + 1 + 1 < w6.heap.size:=by omega);(try have : w2.heap.size + 1 + 1 + 1 < w6.heap.size:=by omega);(try have : w3.heap.size < w6.heap.size:=by omega);(try have : w3.heap.size + 1 < w6.heap.size:=by omega);(try have : w3.heap.size + 1 + 1 < w6.heap.size:=by omega);(try have : w3.heap.size + 1 + 1 + 1 < w6.heap.size:=by omega);(try have : w4.heap.size < w6.heap.size:=by omega);(try have : w4.heap.size + 1 < w6.heap.size:=by omega);(try have : w4.heap.size + 1 + 1 < w6.heap.size:=by omega);(try have : w4.heap.size + 1 + 1 + 1 < w6.heap.size:=by omega);(try have : w5.heap.size < w6.heap.size:=by omega);(try have : w5.heap.size + 1 < w6.heap.size:=by omega);(try have : w5.heap.size + 1 + 1 < w6.heap.size:=by omega);(try have : w5.heap.size + 1 + 1 + 1 < w6.heap.size:=by omega))
 refine hK.out _ _ ?_ (fun hHeld => ?_)
 focus (first | (go_keep;done) | (simp [go_sem];done) | ((try dsimp only);(repeat' apply And.intro) <;> (first | (with_reducible assumption) | ((rw [World.cell?_alloc_lt _ _ _ (by show _ < _;omega)]);go_split_ands;(first | with_reducible assumption | (refine (World.cell?_alloc_lt _ _ _ (by show _ < _;omega)).symm.trans ?_;with_reducible assumption))) | ((rw [World.cell?_setCell_other _ _ _ _ (by intro e;injection e;omega)]);with_reducible assumption) | (go_keep;done) | (simp [go_sem];done) | (simp (disch:=go_size) [*,World.cell?_alloc_some,World.cell?_setCell_far];done))))
 clear hK K
 (try simp only [Act.put,List.setIfInBounds_toArray,List.set_cons_zero,List.set_cons_succ])
 refine wpAnyH_ready (rs:=[23]) (by kernel_rfl) (by simp) ?_
 refine AllReadyH.cons (o:=_) rfl (fun K hK => ?_) AllReadyH.nil
 go_simp
 ((go_at_call 12;with_reducible refine (HSN.out _ (by (repeat' first|(with_reducible first|exact blR _ _|assumption|refine blD ?_|refine blN ?_ _)|((with_reducible first|refine blA ?_ ?_ _|refine blS ?_ ?_ _|refine blT (by assumption) ?_ ?_);focus (go_size;done))))).mono ?_);rintro _ w7 ⟨rfl,hb7⟩;have hb7s:=hb7.size;(try simp only [wsA,wsS,wsD,wsN] at hb7s);obtain ⟨hb7c,hb7f⟩:=bcell hb7;(try have : w.heap.size < w7.heap.size:=by omega);(try have : w.heap.size + 1 < w7.heap.size:=by omega);(try have : w.heap.size + 1 + 1 < w7.heap.size:=by omega);(try have : w.heap.size + 1 + 1 + 1 < w7.heap.size:=by omega);(try have : w2.heap.size < w7.heap.size:=by omega);(try have : w2.heap.size + 1 < w7.heap.size:=by omega);(try have : w2.heap.size + 1 + 1 < w7.heap.size:=by omega);(try have : w2.heap.size + 1 + 1 + 1 < w7.heap.size:=by omega);(try have : w3.heap.size < w7.heap.size:=by omega);(try have : w3.heap.size + 1 < w7.heap.size:=by omega);(try have : w3.heap.size + 1 + 1 < w7.heap.size:=by omega);(try have : w3.heap.size + 1 + 1 + 1 < w7.heap.size:=by omega);(try have : w4.heap.size < w7.heap.size:=by omega);(try have : w4.heap.size + 1 < w7.heap.size:=by omega);(try have : w4.heap.size + 1 + 1 < w7.heap.size:=by omega);(try have : w4.heap.size + 1 + 1 + 1 < w7.heap.size:=by omega);(try have : w5.heap.size < w7.heap.size:=by omega);(try have : w5.heap.size + 1 < w7.heap.size:=by omega);(try have : w5.heap.size + 1 + 1 < w7.heap.size:=by omega);(try have : w5.heap.size + 1 + 1 + 1 < w7.heap.size:=by omega))
 refine hK.out _ _ ?_ (fun hHeld => ?_)
 focus (first | (go_keep;done) | (simp [go_sem];done) | ((try dsimp only);(repeat' apply And.intro) <;> (first | (with_reducible assumption) | ((rw [World.cell?_alloc_lt _ _ _ (by show _ < _;omega)]);go_split_ands;(first | with_reducible assumption | (refine (World.cell?_alloc_lt _ _ _ (by show _ < _;omega)).symm.trans ?_;with_reducible assumption))) | ((rw [World.cell?_setCell_other _ _ _ _ (by intro e;injection e;omega)]);with_reducible assumption) | (go_keep;done) | (simp [go_sem];done) | (simp (disch:=go_size) [*,World.cell?_alloc_some,World.cell?_setCell_far];done))))
 clear hK K
 (try simp only [Act.put,List.setIfInBounds_toArray,List.set_cons_zero,List.set_cons_succ])
 refine take_litD (i:=24) (oi:=?_) (v:=?_) ?_ ?_ ?_ ?_ ?_ (Or.inl ⟨?_, ?_⟩) ?_ ?_
 rotate_left
 rotate_left
 focus (simp only [List.getElem?_toArray,List.getElem?_cons_succ,List.getElem?_cons_zero];rfl)
 focus kernel_rfl
 focus kernel_rfl
 focus kernel_rfl
 focus (exact fun _ _ _ h => h)
 focus rfl
 focus ((intro w hSw;(try dsimp only at hSw);go_simp);first | done | with_reducible rfl)
 focus assumption
 (try simp only [Act.put,List.setIfInBounds_toArray,List.set_cons_zero,List.set_cons_succ])
 refine take_litD (i:=25) (oi:=?_) (v:=?_) ?_ ?_ ?_ ?_ ?_ (Or.inl ⟨?_, ?_⟩) ?_ ?_
 rotate_left
 rotate_left
 focus (simp only [List.getElem?_toArray,List.getElem?_cons_succ,List.getElem?_cons_zero];rfl)
 focus kernel_rfl
 focus kernel_rfl
 focus kernel_rfl
 focus (exact fun _ _ _ h => h)
 focus rfl
 focus ((intro w hSw;(try dsimp only at hSw);go_simp);first | done | with_reducible rfl)
 focus assumption
 (try simp only [Act.put,List.setIfInBounds_toArray,List.set_cons_zero,List.set_cons_succ])
 refine take_litD (i:=26) (oi:=?_) (v:=?_) ?_ ?_ ?_ ?_ ?_ (Or.inl ⟨?_, ?_⟩) ?_ ?_
 rotate_left
 rotate_left
 focus (simp only [List.getElem?_toArray,List.getElem?_cons_succ,List.getElem?_cons_zero];rfl)
 focus kernel_rfl
 focus kernel_rfl
 focus kernel_rfl
 focus (exact fun _ _ _ h => h)
 focus rfl
 focus ((intro w hSw;(try dsimp only at hSw);go_simp);first | done | with_reducible rfl)
 focus assumption
 (try simp only [Act.put,List.setIfInBounds_toArray,List.set_cons_zero,List.set_cons_succ])
 refine take_litD (i:=27) (oi:=?_) (v:=?_) ?_ ?_ ?_ ?_ ?_ (Or.inl ⟨?_, ?_⟩) ?_ ?_
 rotate_left
 rotate_left
 focus (simp only [List.getElem?_toArray,List.getElem?_cons_succ,List.getElem?_cons_zero];rfl)
 focus kernel_rfl
 focus kernel_rfl
 focus kernel_rfl
 focus (exact fun _ _ _ h => h)
 focus rfl
 focus ((intro w hSw;(try dsimp only at hSw);go_simp);first | done | with_reducible rfl)
 focus assumption
 (try simp only [Act.put,List.setIfInBounds_toArray,List.set_cons_zero,List.set_cons_succ])
 refine take_litD (i:=28) (oi:=?_) (v:=?_) ?_ ?_ ?_ ?_ ?_ (Or.inl ⟨?_, ?_⟩) ?_ ?_
 rotate_left
 rotate_left
 focus (simp only [List.getElem?_toArray,List.getElem?_cons_succ,List.getElem?_cons_zero];rfl)
 focus kernel_rfl
 focus kernel_rfl
 focus kernel_rfl
 focus (exact fun _ _ _ h => h)
 focus rfl
 focus ((intro w hSw;(try dsimp only at hSw);go_simp);first | done | with_reducible rfl)
 focus assumption
 (try simp only [Act.put,List.setIfInBounds_toArray,List.set_cons_zero,List.set_cons_succ])
 refine take_litD (i:=29) (oi:=?_) (v:=?_) ?_ ?_ ?_ ?_ ?_ (Or.inl ⟨?_, ?_⟩) ?_ ?_
 rotate_left
 rotate_left
 focus (simp only [List.getElem?_toArray,List.getElem?_cons_succ,List.getElem?_cons_zero];rfl)
 focus kernel_rfl
 focus kernel_rfl
 focus kernel_rfl
 focus (exact fun _ _ _ h => h)
 focus rfl
 focus ((intro w hSw;(try dsimp only at hSw);go_simp);first | done | with_reducible rfl)
 focus assumption
 (try simp only [Act.put,List.setIfInBounds_toArray,List.set_cons_zero,List.set_cons_succ])
 refine take_litD (i:=30) (oi:=?_) (v:=?_) ?_ ?_ ?_ ?_ ?_ (Or.inl ⟨?_, ?_⟩) ?_ ?_
 rotate_left
 rotate_left
 focus (simp only [List.getElem?_toArray,List.getElem?_cons_succ,List.getElem?_cons_zero];rfl)
 focus kernel_rfl
 focus kernel_rfl
 focus kernel_rfl
 focus (exact fun _ _ _ h => h)
 focus rfl
 focus ((intro w hSw;(try dsimp only at hSw);go_simp);first | done | with_reducible rfl)
 focus assumption
 (try simp only [Act.put,List.setIfInBounds_toArray,List.set_cons_zero,List.set_cons_succ])
 refine take_litD (i:=31) (oi:=?_) (v:=?_) ?_ ?_ ?_ ?_ ?_ (Or.inl ⟨?_, ?_⟩) ?_ ?_
 rotate_left
 rotate_left
 focus (simp only [List.getElem?_toArray,List.getElem?_cons_succ,List.getElem?_cons_zero];rfl)
 focus kernel_rfl
 focus kernel_rfl
 focus kernel_rfl
 focus (exact fun _ _ _ h => h)
 focus rfl
 focus ((intro w hSw;(try dsimp only at hSw);go_simp);first | done | with_reducible rfl)
 focus assumption
 (try simp only [Act.put,List.setIfInBounds_toArray,List.set_cons_zero,List.set_cons_succ])
 refine take_litD (i:=32) (oi:=?_) (v:=?_) ?_ ?_ ?_ ?_ ?_ (Or.inl ⟨?_, ?_⟩) ?_ ?_
 rotate_left
 rotate_left
 focus (simp only [List.getElem?_toArray,List.getElem?_cons_succ,List.getElem?_cons_zero];rfl)
 focus kernel_rfl
 focus kernel_rfl
 focus kernel_rfl
 focus (exact fun _ _ _ h => h)
 focus rfl
 focus ((intro w hSw;(try dsimp only at hSw);go_simp);first | done | with_reducible rfl)
 focus assumption
 (try simp only [Act.put,List.setIfInBounds_toArray,List.set_cons_zero,List.set_cons_succ])
 refine wpAnyH_done (by kernel_rfl) ?_ _
 obtain ⟨W2,hW2⟩ : ∃ W2 : World,W2 = w7:=⟨_,rfl⟩
 have hbx : Below W.heap.size W W2:=by
  rw [hW2]
  (repeat' first|(with_reducible first|exact blR _ _|assumption|refine blD ?_|refine blN ?_ _)|((with_reducible first|refine blA ?_ ?_ _|refine blS ?_ ?_ _|refine blT (by assumption) ?_ ?_);focus (go_size;done)))
 subst hW2
 have hbxs:=hbx.size
 have j9:=k9.below hbx l9
 have j10:=k10.below hbx l10
 have j8:=k8.below hbx l8
 have hbm2 : Below w2.heap.size w2 W2:=m2.trans (hbx.mono (by omega))
 have hbm3 : Below w3.heap.size w3 W2:=m3.trans (hbx.mono (by omega))
 have hbm4 : Below w4.heap.size w4 W2:=m4.trans (hbx.mono (by omega))
 have mb2 : Below w.heap.size w W2:=mb.trans (hbx.mono (by omega))
 clear nc0 nc1 nc2 nc3 nc4 nc5 nc6 nc7 nc8 nc9 q9 q10 k9 k10 k8 k11 kR m2 m3 m4 m5 mb hbx HSN hb6 hb6c hb6f hb7 hb7c hb7f hHeld
 have HLS:=Lib.hid (fun (X : World) (hX : Below w.heap.size w X) (h2 : Below w2.heap.size w2 X) (h3 : Below w3.heap.size w3 X) => HLE.out A10 C10 B10 D10 A9 C9 B9 D9 X (tabs_below HT.out hX) (va_below HV10.out h3) (va_below HV9.out h2))
 have f9:=j9.lt
 have f10:=j10.lt
 have f8:=j8.lt
 have ac0:=j9.cell 0 rfl
 have ac1:=j9.cell 1 rfl
 have ac2:=j9.cell 2 rfl
 have ac3:=j9.cell 3 rfl
 have ac4:=j9.cell 4 rfl
 have ac5:=j9.cell 5 rfl
 have ac6:=j9.cell 6 rfl
 have ac7:=j9.cell 7 rfl
 have ac8:=j9.cell 8 rfl
 have ac9:=j9.cell 9 rfl
 have ec0:=j10.cell 0 rfl
 have ec1:=j10.cell 1 rfl
 have ec2:=j10.cell 2 rfl
 have ec3:=j10.cell 3 rfl
 have ec4:=j10.cell 4 rfl
 have ec5:=j10.cell 5 rfl
 have ec6:=j10.cell 6 rfl
 have ec7:=j10.cell 7 rfl
 have ec8:=j10.cell 8 rfl
 have ec9:=j10.cell 9 rfl
 go_wp2_with (first | (go_at_call 21;(with_reducible refine (HLS.out _ (by (repeat' first|(with_reducible first|exact blR _ _|assumption|refine blD ?_|refine blN ?_ _)|((with_reducible first|refine blA ?_ ?_ _|refine blS ?_ ?_ _|refine blT (by assumption) ?_ ?_);focus (go_size;done)))) (by (repeat' first|(with_reducible first|exact blR _ _|assumption|refine blD ?_|refine blN ?_ _)|((with_reducible first|refine blA ?_ ?_ _|refine blS ?_ ?_ _|refine blT (by assumption) ?_ ?_);focus (go_size;done)))) (by (repeat' first|(with_reducible first|exact blR _ _|assumption|refine blD ?_|refine blN ?_ _)|((with_reducible first|refine blA ?_ ?_ _|refine blS ?_ ?_ _|refine blT (by assumption) ?_ ?_);focus (go_size;done))))).mono ?_);rintro _ w8 ⟨rfl,hb8⟩;have hb8s:=hb8.size;(try have : w.heap.size < w8.heap.size:=by omega);(try have : w.heap.size + 1 < w8.heap.size:=by omega);(try have : w.heap.size + 1 + 1 < w8.heap.size:=by omega);(try have : w.heap.size + 1 + 1 + 1 < w8.heap.size:=by omega);(try have : w2.heap.size < w8.heap.size:=by omega);(try have : w2.heap.size + 1 < w8.heap.size:=by omega);(try have : w2.heap.size + 1 + 1 < w8.heap.size:=by omega);(try have : w2.heap.size + 1 + 1 + 1 < w8.heap.size:=by omega);(try have : w3.heap.size < w8.heap.size:=by omega);(try have : w3.heap.size + 1 < w8.heap.size:=by omega);(try have : w3.heap.size + 1 + 1 < w8.heap.size:=by omega);(try have : w3.heap.size + 1 + 1 + 1 < w8.heap.size:=by omega);(try have : w4.heap.size < w8.heap.size:=by omega);(try have : w4.heap.size + 1 < w8.heap.size:=by omega);(try have : w4.heap.size + 1 + 1 < w8.heap.size:=by omega);(try have : w4.heap.size + 1 + 1 + 1 < w8.heap.size:=by omega);obtain ⟨hb8c,hb8f⟩:=bcell hb8))
 go_ret
 exact ⟨ret_bool (by simp),by (repeat' first|(with_reducible first|exact blR _ _|assumption|refine blD ?_|refine blN ?_ _)|((with_reducible first|refine blA ?_ ?_ _|refine blS ?_ ?_ _|refine blT (by assumption) ?_ ?_);focus (go_size;done)))⟩
set_option maxRecDepth 100000 in
set_option maxHeartbeats 8000000 in
theorem numbers_over (N O R V : Value) (n nn on vn NC OC RC VC0 : Nat) (NA OA RA VA0 : Option Addr) (hN : N = .slice NA nn NC) (hO : O = .slice OA on OC) (hR : R = .slice RA n RC) (hV : V = .slice VA0 vn VC0) (w : World) (HK : Hid (∀ W : World,Below w.heap.size w W → Calls Tryz.prog 9 #[] W fun e w' => e = .returned (.bool true) ∧ Below W.heap.size W w')) (hT : Tabs w) (k : Nat) (hk : k ≤ 60) (hk1 : k ≠ 1) (bq : Bool) (HQ : Hid ((bq = true ∧ n = 0 ∧ 0 < vn ∧ k = 1) ∨ (bq = false ∧ ((n ≠ 0 ∧ k = n) ∨ (n = 0 ∧ vn = 0 ∧ k = 0))))) (hn6 : n ≤ 1048576) (hv6 : vn ≤ 1048576) (b : Bool) (c s : Nat) (b' : Bool) (c' s' : Nat) (d8 : VD) (hf : DForm b c s) (hf' : DForm b' c' s') (ho : 0 ≤ ordD b' (unit c' s') b (unit c s))
  (h9 : LDecV 9 (nV b (wd c 1) (wd c 0) s) (nmD b c s) 0 (.agg #[N,O,R,V]) w) (h10 : LDecV 10 (nV b' (wd c' 1) (wd c' 0) s') (nmD b' c' s') 0 (.agg #[N,O,R,V]) w) (h8 : LDecV 8 (fun A C A2 C2 => vargs d8 A C A2 C2) d8 3 (.agg #[N,O,R,V]) w) (h11 : LDecV 11 (nV false 0 k 0) (nd k) 0 (.agg #[N,O,R,V]) w) :
  Calls Tryz.prog 8 #[.agg #[N,O,R,V]] w fun e w' => e = .returned (.bool true) ∧ Below w.heap.size w w':=by
 have hle:=less_lit b' c' s' b c s hf' hf ho
 have HT:=Lib.hid hT
 obtain ⟨x1,hx1⟩ : ∃ y,y = wd c 1:=⟨_,rfl⟩
 obtain ⟨x0,hx0⟩ : ∃ y,y = wd c 0:=⟨_,rfl⟩
 obtain ⟨y1,hy1⟩ : ∃ y,y = wd c' 1:=⟨_,rfl⟩
 obtain ⟨y0,hy0⟩ : ∃ y,y = wd c' 0:=⟨_,rfl⟩
 simp only [← hx1,← hx0,← hy1,← hy0] at hle h9 h10
 have HLE:=Lib.hid hle
 clear hle hT hf hf' ho hx1 hx0 hy1 hy0
 subst hN hO hR hV
 unfold LDecV at h9 h10 h8 h11
 (try simp only [zV,nV] at h9 h10 h8 h11)
 have H9:=Lib.hid h9
 have H10:=Lib.hid h10
 have H8:=Lib.hid h8
 have H11:=Lib.hid h11
 clear h9 h10 h8 h11
 have hnc : (n : Int) ≤ 1048576:=by omega
 have hvc : (vn : Int) ≤ 1048576:=by omega
 have hkb : ((k : Int) != 1) = true:=by rw [bne_iff_ne];omega
 clear hk1
 go_enter Tryz.func8,Tryz.ntmps8
 go_upto_region 10 with (first | ((go_at_call 9;with_reducible refine (HK.out _ (by (repeat' first|(with_reducible first|exact blR _ _|assumption|refine blD ?_|refine blN ?_ _)|((with_reducible first|refine blA ?_ ?_ _|refine blS ?_ ?_ _|refine blT (by assumption) ?_ ?_);focus (go_size;done))))).mono ?_);rintro _ w1 ⟨rfl,hb1⟩;have hb1s:=hb1.size;(try simp only [wsA,wsS,wsD,wsN] at hb1s);obtain ⟨hb1c,hb1f⟩:=bcell hb1;(try have : w.heap.size < w1.heap.size:=by omega);(try have : w.heap.size + 1 < w1.heap.size:=by omega);(try have : w.heap.size + 1 + 1 < w1.heap.size:=by omega);(try have : w.heap.size + 1 + 1 + 1 < w1.heap.size:=by omega)) | (go_at_call 11;(with_reducible refine (H9.out _ (by (repeat' first|(with_reducible first|exact blR _ _|assumption|refine blD ?_|refine blN ?_ _)|((with_reducible first|refine blA ?_ ?_ _|refine blS ?_ ?_ _|refine blT (by assumption) ?_ ?_);focus (go_size;done))))).mono ?_);rintro _ w2 ⟨A9,C9,B9,D9,rfl,hv9,hbw2⟩;have HV9:=Lib.hid hv9.va;clear hv9;have hbw2s:=hbw2.size;(try simp only [World.size_alloc] at hbw2s);(try have : w.heap.size < w2.heap.size:=by omega);(try have : w.heap.size + 1 < w2.heap.size:=by omega);(try have : w.heap.size + 1 + 1 < w2.heap.size:=by omega);(try have : w.heap.size + 1 + 1 + 1 < w2.heap.size:=by omega);(try have : w1.heap.size < w2.heap.size:=by omega);(try have : w1.heap.size + 1 < w2.heap.size:=by omega);(try have : w1.heap.size + 1 + 1 < w2.heap.size:=by omega);(try have : w1.heap.size + 1 + 1 + 1 < w2.heap.size:=by omega);obtain ⟨hbw2c,hbw2f⟩:=bcell hbw2) | (go_at_call 11;(with_reducible refine (H10.out _ (by (repeat' first|(with_reducible first|exact blR _ _|assumption|refine blD ?_|refine blN ?_ _)|((with_reducible first|refine blA ?_ ?_ _|refine blS ?_ ?_ _|refine blT (by assumption) ?_ ?_);focus (go_size;done))))).mono ?_);rintro _ w3 ⟨A10,C10,B10,D10,rfl,hv10,hbw3⟩;have HV10:=Lib.hid hv10.va;clear hv10;have hbw3s:=hbw3.size;(try simp only [World.size_alloc] at hbw3s);(try have : w.heap.size < w3.heap.size:=by omega);(try have : w.heap.size + 1 < w3.heap.size:=by omega);(try have : w.heap.size + 1 + 1 < w3.heap.size:=by omega);(try have : w.heap.size + 1 + 1 + 1 < w3.heap.size:=by omega);(try have : w2.heap.size < w3.heap.size:=by omega);(try have : w2.heap.size + 1 < w3.heap.size:=by omega);(try have : w2.heap.size + 1 + 1 < w3.heap.size:=by omega);(try have : w2.heap.size + 1 + 1 + 1 < w3.heap.size:=by omega);obtain ⟨hbw3c,hbw3f⟩:=bcell hbw3) | ((go_at_call 11;(with_reducible refine (H8.out _ (by (repeat' first|(with_reducible first|exact blR _ _|assumption|refine blD ?_|refine blN ?_ _)|((with_reducible first|refine blA ?_ ?_ _|refine blS ?_ ?_ _|refine blT (by assumption) ?_ ?_);focus (go_size;done))))).mono ?_);rintro _ w4 ⟨A8,C8,B8,D8,rfl,hv8,hbw4⟩;have HV8:=Lib.hid hv8.va;clear hv8;have hbw4s:=hbw4.size;(try simp only [World.size_alloc] at hbw4s);(try have : w.heap.size < w4.heap.size:=by omega);(try have : w.heap.size + 1 < w4.heap.size:=by omega);(try have : w.heap.size + 1 + 1 < w4.heap.size:=by omega);(try have : w.heap.size + 1 + 1 + 1 < w4.heap.size:=by omega);(try have : w3.heap.size < w4.heap.size:=by omega);(try have : w3.heap.size + 1 < w4.heap.size:=by omega);(try have : w3.heap.size + 1 + 1 < w4.heap.size:=by omega);(try have : w3.heap.size + 1 + 1 + 1 < w4.heap.size:=by omega);obtain ⟨hbw4c,hbw4f⟩:=bcell hbw4);(try have : w2.heap.size < w4.heap.size:=by omega);(try have : w2.heap.size + 1 < w4.heap.size:=by omega);(try have : w2.heap.size + 1 + 1 < w4.heap.size:=by omega);(try have : w2.heap.size + 1 + 1 + 1 < w4.heap.size:=by omega)) | ((go_at_call 11;(with_reducible refine (H11.out _ (by (repeat' first|(with_reducible first|exact blR _ _|assumption|refine blD ?_|refine blN ?_ _)|((with_reducible first|refine blA ?_ ?_ _|refine blS ?_ ?_ _|refine blT (by assumption) ?_ ?_);focus (go_size;done))))).mono ?_);rintro _ w5 ⟨A11,C11,B11,D11,rfl,hv11,hbw5⟩;have HV11:=Lib.hid hv11.va;clear hv11;have hbw5s:=hbw5.size;(try simp only [World.size_alloc] at hbw5s);(try have : w.heap.size < w5.heap.size:=by omega);(try have : w.heap.size + 1 < w5.heap.size:=by omega);(try have : w.heap.size + 1 + 1 < w5.heap.size:=by omega);(try have : w.heap.size + 1 + 1 + 1 < w5.heap.size:=by omega);(try have : w4.heap.size < w5.heap.size:=by omega);(try have : w4.heap.size + 1 < w5.heap.size:=by omega);(try have : w4.heap.size + 1 + 1 < w5.heap.size:=by omega);(try have : w4.heap.size + 1 + 1 + 1 < w5.heap.size:=by omega);obtain ⟨hbw5c,hbw5f⟩:=bcell hbw5);(try have : w2.heap.size < w5.heap.size:=by omega);(try have : w2.heap.size + 1 < w5.heap.size:=by omega);(try have : w2.heap.size + 1 + 1 < w5.heap.size:=by omega);(try have : w2.heap.size + 1 + 1 + 1 < w5.heap.size:=by omega);(try have : w3.heap.size < w5.heap.size:=by omega);(try have : w3.heap.size + 1 < w5.heap.size:=by omega);(try have : w3.heap.size + 1 + 1 < w5.heap.size:=by omega);(try have : w3.heap.size + 1 + 1 + 1 < w5.heap.size:=by omega)))
 generalize hW : w5.alloc _ = W
 have kR : Bk W w.heap.size 26 [.slice NA nn NC,.slice OA on OC,.slice RA n RC,.slice VA0 vn VC0]:=by
  rw [← hW]
  (repeat (first|(with_reducible assumption)|((with_reducible refine bkW ?_);(first|rfl|(simp only [wsA,wsS,wsD,wsN];done)))|(with_reducible first|refine bkA ?_ _|refine bkD ?_|refine bkN ?_ _)|((with_reducible refine bkF ?_ ?_ _);focus (simp only [];omega))|((with_reducible refine bkB (by assumption) ?_ ?_);focus (go_size;done))))
 have k9 : Bk W w2.heap.size 34 [.int .i64 2,.bool false,.bool b,.int .u64 x1,.int .u64 x0,.int .i64 (s : Int),.string ⟨#[]⟩,.int .i64 0,.slice A9 0 C9,.slice B9 0 D9]:=by
  rw [← hW]
  (repeat (first|(with_reducible assumption)|((with_reducible refine bkW ?_);(first|rfl|(simp only [wsA,wsS,wsD,wsN];done)))|(with_reducible first|refine bkA ?_ _|refine bkD ?_|refine bkN ?_ _)|((with_reducible refine bkF ?_ ?_ _);focus (simp only [];omega))|((with_reducible refine bkB (by assumption) ?_ ?_);focus (go_size;done))))
 have k10 : Bk W w3.heap.size 34 [.int .i64 2,.bool false,.bool b',.int .u64 y1,.int .u64 y0,.int .i64 (s' : Int),.string ⟨#[]⟩,.int .i64 0,.slice A10 0 C10,.slice B10 0 D10]:=by
  rw [← hW]
  (repeat (first|(with_reducible assumption)|((with_reducible refine bkW ?_);(first|rfl|(simp only [wsA,wsS,wsD,wsN];done)))|(with_reducible first|refine bkA ?_ _|refine bkD ?_|refine bkN ?_ _)|((with_reducible refine bkF ?_ ?_ _);focus (simp only [];omega))|((with_reducible refine bkB (by assumption) ?_ ?_);focus (go_size;done))))
 have k8 : Bk W w4.heap.size 34 [.int .i64 d8.s.kind,.bool d8.s.yes,.bool d8.s.neg,.int .u64 (wd d8.s.coef 1),.int .u64 (wd d8.s.coef 0),.int .i64 d8.s.sc,.string ⟨d8.s.text.toArray⟩,.int .i64 d8.s.day,.slice A8 d8.list.length C8,.slice B8 d8.names.length D8]:=by
  rw [← hW]
  (repeat (first|(with_reducible assumption)|((with_reducible refine bkW ?_);(first|rfl|(simp only [wsA,wsS,wsD,wsN];done)))|(with_reducible first|refine bkA ?_ _|refine bkD ?_|refine bkN ?_ _)|((with_reducible refine bkF ?_ ?_ _);focus (simp only [];omega))|((with_reducible refine bkB (by assumption) ?_ ?_);focus (go_size;done))))
 have k11 : Bk W w5.heap.size 34 [.int .i64 2,.bool false,.bool false,.int .u64 0,.int .u64 k,.int .i64 0,.string ⟨#[]⟩,.int .i64 0,.slice A11 0 C11,.slice B11 0 D11]:=by
  rw [← hW]
  (repeat (first|(with_reducible assumption)|((with_reducible refine bkW ?_);(first|rfl|(simp only [wsA,wsS,wsD,wsN];done)))|(with_reducible first|refine bkA ?_ _|refine bkD ?_|refine bkN ?_ _)|((with_reducible refine bkF ?_ ?_ _);focus (simp only [];omega))|((with_reducible refine bkB (by assumption) ?_ ?_);focus (go_size;done))))
 have m2 : Below w2.heap.size w2 W:=by
  rw [← hW]
  (repeat' first|(with_reducible first|exact blR _ _|assumption|refine blD ?_|refine blN ?_ _)|((with_reducible first|refine blA ?_ ?_ _|refine blS ?_ ?_ _|refine blT (by assumption) ?_ ?_);focus (go_size;done)))
 have m3 : Below w3.heap.size w3 W:=by
  rw [← hW]
  (repeat' first|(with_reducible first|exact blR _ _|assumption|refine blD ?_|refine blN ?_ _)|((with_reducible first|refine blA ?_ ?_ _|refine blS ?_ ?_ _|refine blT (by assumption) ?_ ?_);focus (go_size;done)))
 have m4 : Below w4.heap.size w4 W:=by
  rw [← hW]
  (repeat' first|(with_reducible first|exact blR _ _|assumption|refine blD ?_|refine blN ?_ _)|((with_reducible first|refine blA ?_ ?_ _|refine blS ?_ ?_ _|refine blT (by assumption) ?_ ?_);focus (go_size;done)))
 have m5 : Below w5.heap.size w5 W:=by
  rw [← hW]
  (repeat' first|(with_reducible first|exact blR _ _|assumption|refine blD ?_|refine blN ?_ _)|((with_reducible first|refine blA ?_ ?_ _|refine blS ?_ ?_ _|refine blT (by assumption) ?_ ?_);focus (go_size;done)))
 have mb : Below w.heap.size w W:=by
  rw [← hW]
  (repeat' first|(with_reducible first|exact blR _ _|assumption|refine blD ?_|refine blN ?_ _)|((with_reducible first|refine blA ?_ ?_ _|refine blS ?_ ?_ _|refine blT (by assumption) ?_ ?_);focus (go_size;done)))
 clear hW hb1 hb1c hb1f hbw2 hbw2c hbw2f hbw3 hbw3c hbw3f hbw4 hbw4c hbw4f hbw5 hbw5c hbw5f
 go_cut [72] from 65 (fun s72 wx => s72 = .bool bq ∧ Hid (W = wx))
 case first =>
  have r0:=kR.cell 3 rfl
  rcases HQ.out with ⟨rfl,q1,q2,q3⟩ | ⟨rfl,q1⟩
  ·have e1 : ((n : Int) == 0) = true:=by rw [beq_iff_eq];omega
   have e2 : (0 : Int) < (vn : Int):=by omega
   clear q1 q3
   go_wp2_with fail
   go_meet
   exact ⟨rfl,Lib.hid rfl⟩
  ·rcases q1 with ⟨q1,q5⟩ | ⟨q1,q2,q5⟩
   ·have e1 : ((n : Int) == 0) = false:=by rw [beq_eq_false_iff_ne];omega
    clear q1 q5
    go_wp2_with fail
    go_meet
    exact ⟨rfl,Lib.hid rfl⟩
   ·have e1 : ((n : Int) == 0) = true:=by rw [beq_iff_eq];omega
    have e2 : ¬ (0 : Int) < (vn : Int):=by omega
    have e3 : ¬ 0 < vn:=by omega
    clear q1 q2 q5
    go_wp2_with fail
    go_meet
    exact ⟨rfl,Lib.hid rfl⟩
 case rest =>
 obtain ⟨rfl,hwc⟩:=hcut
 obtain rfl:=hwc.out
 go_upto_if 72 with (fail)
 go_cut [11] from 73 (fun s11 wx => s11 = .int .i64 (k : Int) ∧ Hid (W = wx))
 case first =>
  rcases HQ.out with ⟨rfl,q1,q2,q3⟩ | ⟨rfl,q1⟩
  ·have HQ3:=Lib.hid q3
   clear q1 q2 q3
   go_wp2_with fail
   go_meet
   exact ⟨by rw [HQ3.out];rfl,Lib.hid rfl⟩
  ·have HQ3 : Hid (k = n):=Lib.hid (by omega)
   clear q1
   go_wp2_with fail
   go_meet
   exact ⟨by rw [HQ3.out],Lib.hid rfl⟩
 case rest =>
 obtain ⟨rfl,hwc⟩:=hcut
 obtain rfl:=hwc.out
 have hk0 : (0 : Int) ≤ (k : Int):=by omega
 have hk6 : (k : Int) ≤ 60:=by omega
 have hwk : IntKind.u64.wrap (k : Int) = k:=IntWalk.u64_in _ (by omega)
 have HSN:=Lib.hid (fun (X : World) (hX : Below w5.heap.size w5 X) => same_nd hk A11 C11 B11 D11 X (va_below HV11.out hX))
 have l9:=k9.lt
 have l10:=k10.lt
 have l8:=k8.lt
 have l11:=k11.lt
 have lR:=kR.lt
 have q9:=k9.cell 0 rfl
 have q10:=k10.cell 0 rfl
 have nc0:=k11.cell 0 rfl
 have nc1:=k11.cell 1 rfl
 have nc2:=k11.cell 2 rfl
 have nc3:=k11.cell 3 rfl
 have nc4:=k11.cell 4 rfl
 have nc5:=k11.cell 5 rfl
 have nc6:=k11.cell 6 rfl
 have nc7:=k11.cell 7 rfl
 have nc8:=k11.cell 8 rfl
 have nc9:=k11.cell 9 rfl
 have mWs:=mb.size
 go_wp2_with fail
 refine wp_region_held_drew (S:=(fun w' => w'.cell? ⟨w2.heap.size,0,none⟩ = some (.int .i64 2) ∧ w'.cell? ⟨w3.heap.size,0,none⟩ = some (.int .i64 2) ∧ w'.cell? ⟨w5.heap.size,0,none⟩ = some (.int .i64 2) ∧ w'.cell? ⟨w5.heap.size,1,none⟩ = some (.bool false) ∧ w'.cell? ⟨w5.heap.size,2,none⟩ = some (.bool false) ∧ w'.cell? ⟨w5.heap.size,3,none⟩ = some (.int .u64 0) ∧ w'.cell? ⟨w5.heap.size,4,none⟩ = some (.int .u64 (k : Int)) ∧ w'.cell? ⟨w5.heap.size,5,none⟩ = some (.int .i64 0) ∧ w'.cell? ⟨w5.heap.size,6,none⟩ = some (.string ⟨#[]⟩) ∧ w'.cell? ⟨w5.heap.size,7,none⟩ = some (.int .i64 0) ∧ w'.cell? ⟨w5.heap.size,8,none⟩ = some (.slice A11 0 C11) ∧ w'.cell? ⟨w5.heap.size,9,none⟩ = some (.slice B11 0 D11))) (by kernel_rfl) ?_ (fun hHeld => ?_)
 focus (first | (go_keep;done) | (simp [go_sem];done) | ((try dsimp only);(repeat' apply And.intro) <;> (first | (with_reducible assumption) | ((rw [World.cell?_alloc_lt _ _ _ (by show _ < _;omega)]);go_split_ands;(first | with_reducible assumption | (refine (World.cell?_alloc_lt _ _ _ (by show _ < _;omega)).symm.trans ?_;with_reducible assumption))) | ((rw [World.cell?_setCell_other _ _ _ _ (by intro e;injection e;omega)]);with_reducible assumption) | (go_keep;done) | (simp [go_sem];done) | (simp (disch:=go_size) [*,World.cell?_alloc_some,World.cell?_setCell_far];done))))
 refine take_litD (i:=0) (oi:=?_) (v:=?_) ?_ ?_ ?_ ?_ ?_ (Or.inl ⟨?_, ?_⟩) ?_ ?_
 rotate_left
 rotate_left
 focus (simp only [List.getElem?_toArray,List.getElem?_cons_succ,List.getElem?_cons_zero];rfl)
 focus kernel_rfl
 focus kernel_rfl
 focus kernel_rfl
 focus (exact fun _ _ _ h => h)
 focus rfl
 focus ((intro w hSw;(try dsimp only at hSw);go_simp);first | done | with_reducible rfl)
 focus assumption
 (try simp only [Act.put,List.setIfInBounds_toArray,List.set_cons_zero,List.set_cons_succ])
 refine take_litD (i:=1) (oi:=?_) (v:=?_) ?_ ?_ ?_ ?_ ?_ (Or.inl ⟨?_, ?_⟩) ?_ ?_
 rotate_left
 rotate_left
 focus (simp only [List.getElem?_toArray,List.getElem?_cons_succ,List.getElem?_cons_zero];rfl)
 focus kernel_rfl
 focus kernel_rfl
 focus kernel_rfl
 focus (exact fun _ _ _ h => h)
 focus rfl
 focus ((intro w hSw;(try dsimp only at hSw);go_simp);first | done | with_reducible rfl)
 focus assumption
 (try simp only [Act.put,List.setIfInBounds_toArray,List.set_cons_zero,List.set_cons_succ])
 refine take_litD (i:=2) (oi:=?_) (v:=?_) ?_ ?_ ?_ ?_ ?_ (Or.inl ⟨?_, ?_⟩) ?_ ?_
 rotate_left
 rotate_left
 focus (simp only [List.getElem?_toArray,List.getElem?_cons_succ,List.getElem?_cons_zero];rfl)
 focus kernel_rfl
 focus kernel_rfl
 focus kernel_rfl
 focus (exact fun _ _ _ h => h)
 focus rfl
 focus ((intro w hSw;(try dsimp only at hSw);go_simp);first | done | with_reducible rfl)
 focus assumption
 (try simp only [Act.put,List.setIfInBounds_toArray,List.set_cons_zero,List.set_cons_succ])
 refine take_litD (i:=3) (oi:=?_) (v:=?_) ?_ ?_ ?_ ?_ ?_ (Or.inl ⟨?_, ?_⟩) ?_ ?_
 rotate_left
 rotate_left
 focus (simp only [List.getElem?_toArray,List.getElem?_cons_succ,List.getElem?_cons_zero];rfl)
 focus kernel_rfl
 focus kernel_rfl
 focus kernel_rfl
 focus (exact fun _ _ _ h => h)
 focus rfl
 focus ((intro w hSw;(try dsimp only at hSw);go_simp);first | done | with_reducible rfl)
 focus assumption
 (try simp only [Act.put,List.setIfInBounds_toArray,List.set_cons_zero,List.set_cons_succ])
 refine take_litD (i:=4) (oi:=?_) (v:=?_) ?_ ?_ ?_ ?_ ?_ (Or.inl ⟨?_, ?_⟩) ?_ ?_
 rotate_left
 rotate_left
 focus (simp only [List.getElem?_toArray,List.getElem?_cons_succ,List.getElem?_cons_zero];rfl)
 focus kernel_rfl
 focus kernel_rfl
 focus kernel_rfl
 focus (exact fun _ _ _ h => h)
 focus rfl
 focus ((intro w hSw;(try dsimp only at hSw);go_simp);first | done | with_reducible rfl)
 focus assumption
 (try simp only [Act.put,List.setIfInBounds_toArray,List.set_cons_zero,List.set_cons_succ])
 refine take_litD (i:=5) (oi:=?_) (v:=?_) ?_ ?_ ?_ ?_ ?_ (Or.inl ⟨?_, ?_⟩) ?_ ?_
 rotate_left
 rotate_left
 focus (simp only [List.getElem?_toArray,List.getElem?_cons_succ,List.getElem?_cons_zero];rfl)
 focus kernel_rfl
 focus kernel_rfl
 focus kernel_rfl
 focus (exact fun _ _ _ h => h)
 focus rfl
 focus ((intro w hSw;(try dsimp only at hSw);go_simp);first | done | with_reducible rfl)
 focus assumption
 (try simp only [Act.put,List.setIfInBounds_toArray,List.set_cons_zero,List.set_cons_succ])
 refine take_litD (i:=6) (oi:=?_) (v:=?_) ?_ ?_ ?_ ?_ ?_ (Or.inl ⟨?_, ?_⟩) ?_ ?_
 rotate_left
 rotate_left
 focus (simp only [List.getElem?_toArray,List.getElem?_cons_succ,List.getElem?_cons_zero];rfl)
 focus kernel_rfl
 focus kernel_rfl
 focus kernel_rfl
 focus (exact fun _ _ _ h => h)
 focus rfl
 focus ((intro w hSw;(try dsimp only at hSw);go_simp);first | done | with_reducible rfl)
 focus assumption
 (try simp only [Act.put,List.setIfInBounds_toArray,List.set_cons_zero,List.set_cons_succ])
 refine take_litD (i:=7) (oi:=?_) (v:=?_) ?_ ?_ ?_ ?_ ?_ (Or.inl ⟨?_, ?_⟩) ?_ ?_
 rotate_left
 rotate_left
 focus (simp only [List.getElem?_toArray,List.getElem?_cons_succ,List.getElem?_cons_zero];rfl)
 focus kernel_rfl
 focus kernel_rfl
 focus kernel_rfl
 focus (exact fun _ _ _ h => h)
 focus rfl
 focus ((intro w hSw;(try dsimp only at hSw);go_simp);first | done | with_reducible rfl)
 focus assumption
 (try simp only [Act.put,List.setIfInBounds_toArray,List.set_cons_zero,List.set_cons_succ])
 refine take_litD (i:=8) (oi:=?_) (v:=?_) ?_ ?_ ?_ ?_ ?_ (Or.inl ⟨?_, ?_⟩) ?_ ?_
 rotate_left
 rotate_left
 focus (simp only [List.getElem?_toArray,List.getElem?_cons_succ,List.getElem?_cons_zero];rfl)
 focus kernel_rfl
 focus kernel_rfl
 focus kernel_rfl
 focus (exact fun _ _ _ h => h)
 focus rfl
 focus ((intro w hSw;(try dsimp only at hSw);go_simp);first | done | with_reducible rfl)
 focus assumption
 (try simp only [Act.put,List.setIfInBounds_toArray,List.set_cons_zero,List.set_cons_succ])
 refine take_litD (i:=9) (oi:=?_) (v:=?_) ?_ ?_ ?_ ?_ ?_ (Or.inl ⟨?_, ?_⟩) ?_ ?_
 rotate_left
 rotate_left
 focus (simp only [List.getElem?_toArray,List.getElem?_cons_succ,List.getElem?_cons_zero];rfl)
 focus kernel_rfl
 focus kernel_rfl
 focus kernel_rfl
 focus (exact fun _ _ _ h => h)
 focus rfl
 focus ((intro w hSw;(try dsimp only at hSw);go_simp);first | done | with_reducible rfl)
 focus assumption
 (try simp only [Act.put,List.setIfInBounds_toArray,List.set_cons_zero,List.set_cons_succ])
 refine take_litD (i:=10) (oi:=?_) (v:=?_) ?_ ?_ ?_ ?_ ?_ (Or.inl ⟨?_, ?_⟩) ?_ ?_
 rotate_left
 rotate_left
 focus (simp only [List.getElem?_toArray,List.getElem?_cons_succ,List.getElem?_cons_zero];rfl)
 focus kernel_rfl
 focus kernel_rfl
 focus kernel_rfl
 focus (exact fun _ _ _ h => h)
 focus rfl
 focus ((intro w hSw;(try dsimp only at hSw);go_simp);first | done | with_reducible rfl)
 focus assumption
 (try simp only [Act.put,List.setIfInBounds_toArray,List.set_cons_zero,List.set_cons_succ])
 refine take_litD (i:=11) (oi:=?_) (v:=?_) ?_ ?_ ?_ ?_ ?_ (Or.inl ⟨?_, ?_⟩) ?_ ?_
 rotate_left
 rotate_left
 focus (simp only [List.getElem?_toArray,List.getElem?_cons_succ,List.getElem?_cons_zero];rfl)
 focus kernel_rfl
 focus kernel_rfl
 focus kernel_rfl
 focus (exact fun _ _ _ h => h)
 focus rfl
 focus ((intro w hSw;(try dsimp only at hSw);go_simp);first | done | with_reducible rfl)
 focus assumption
 (try simp only [Act.put,List.setIfInBounds_toArray,List.set_cons_zero,List.set_cons_succ])
 refine take_litD (i:=12) (oi:=?_) (v:=?_) ?_ ?_ ?_ ?_ ?_ (Or.inl ⟨?_, ?_⟩) ?_ ?_
 rotate_left
 rotate_left
 focus (simp only [List.getElem?_toArray,List.getElem?_cons_succ,List.getElem?_cons_zero];rfl)
 focus kernel_rfl
 focus kernel_rfl
 focus kernel_rfl
 focus (exact fun _ _ _ h => h)
 focus rfl
 focus ((intro w hSw;(try dsimp only at hSw);go_simp);first | done | with_reducible rfl)
 focus assumption
 (try simp only [Act.put,List.setIfInBounds_toArray,List.set_cons_zero,List.set_cons_succ])
 refine take_litD (i:=13) (oi:=?_) (v:=?_) ?_ ?_ ?_ ?_ ?_ (Or.inl ⟨?_, ?_⟩) ?_ ?_
 rotate_left
 rotate_left
 focus (simp only [List.getElem?_toArray,List.getElem?_cons_succ,List.getElem?_cons_zero];rfl)
 focus kernel_rfl
 focus kernel_rfl
 focus kernel_rfl
 focus (exact fun _ _ _ h => h)
 focus rfl
 focus ((intro w hSw;(try dsimp only at hSw);go_simp);first | done | with_reducible rfl)
 focus assumption
 (try simp only [Act.put,List.setIfInBounds_toArray,List.set_cons_zero,List.set_cons_succ])
 refine take_litD (i:=14) (oi:=?_) (v:=?_) ?_ ?_ ?_ ?_ ?_ (Or.inl ⟨?_, ?_⟩) ?_ ?_
 rotate_left
 rotate_left
 focus (simp only [List.getElem?_toArray,List.getElem?_cons_succ,List.getElem?_cons_zero];rfl)
 focus kernel_rfl
 focus kernel_rfl
 focus kernel_rfl
 focus (exact fun _ _ _ h => h)
 focus rfl
 focus ((intro w hSw;(try dsimp only at hSw);go_simp);first | done | with_reducible rfl)
 focus assumption
 (try simp only [Act.put,List.setIfInBounds_toArray,List.set_cons_zero,List.set_cons_succ])
 refine take_litD (i:=15) (oi:=?_) (v:=?_) ?_ ?_ ?_ ?_ ?_ (Or.inl ⟨?_, ?_⟩) ?_ ?_
 rotate_left
 rotate_left
 focus (simp only [List.getElem?_toArray,List.getElem?_cons_succ,List.getElem?_cons_zero];rfl)
 focus kernel_rfl
 focus kernel_rfl
 focus kernel_rfl
 focus (exact fun _ _ _ h => h)
 focus rfl
 focus ((intro w hSw;(try dsimp only at hSw);go_simp);first | done | with_reducible rfl)
 focus assumption
 (try simp only [Act.put,List.setIfInBounds_toArray,List.set_cons_zero,List.set_cons_succ])
 refine take_litD (i:=16) (oi:=?_) (v:=?_) ?_ ?_ ?_ ?_ ?_ (Or.inl ⟨?_, ?_⟩) ?_ ?_
 rotate_left
 rotate_left
 focus (simp only [List.getElem?_toArray,List.getElem?_cons_succ,List.getElem?_cons_zero];rfl)
 focus kernel_rfl
 focus kernel_rfl
 focus kernel_rfl
 focus (exact fun _ _ _ h => h)
 focus rfl
 focus ((intro w hSw;(try dsimp only at hSw);go_simp);first | done | with_reducible rfl)
 focus assumption
 (try simp only [Act.put,List.setIfInBounds_toArray,List.set_cons_zero,List.set_cons_succ])
 refine take_litD (i:=17) (oi:=?_) (v:=?_) ?_ ?_ ?_ ?_ ?_ (Or.inl ⟨?_, ?_⟩) ?_ ?_
 rotate_left
 rotate_left
 focus (simp only [List.getElem?_toArray,List.getElem?_cons_succ,List.getElem?_cons_zero];rfl)
 focus kernel_rfl
 focus kernel_rfl
 focus kernel_rfl
 focus (exact fun _ _ _ h => h)
 focus rfl
 focus ((intro w hSw;(try dsimp only at hSw);go_simp);first | done | with_reducible rfl)
 focus assumption
 (try simp only [Act.put,List.setIfInBounds_toArray,List.set_cons_zero,List.set_cons_succ])
 refine take_litD (i:=18) (oi:=?_) (v:=?_) ?_ ?_ ?_ ?_ ?_ (Or.inl ⟨?_, ?_⟩) ?_ ?_
 rotate_left
 rotate_left
 focus (simp only [List.getElem?_toArray,List.getElem?_cons_succ,List.getElem?_cons_zero];rfl)
 focus kernel_rfl
 focus kernel_rfl
 focus kernel_rfl
 focus (exact fun _ _ _ h => h)
 focus rfl
 focus ((intro w hSw;(try dsimp only at hSw);go_simp);first | done | with_reducible rfl)
 focus assumption
 (try simp only [Act.put,List.setIfInBounds_toArray,List.set_cons_zero,List.set_cons_succ])
 refine take_litD (i:=19) (oi:=?_) (v:=?_) ?_ ?_ ?_ ?_ ?_ (Or.inl ⟨?_, ?_⟩) ?_ ?_
 rotate_left
 rotate_left
 focus (simp only [List.getElem?_toArray,List.getElem?_cons_succ,List.getElem?_cons_zero];rfl)
 focus kernel_rfl
 focus kernel_rfl
 focus kernel_rfl
 focus (exact fun _ _ _ h => h)
 focus rfl
 focus ((intro w hSw;(try dsimp only at hSw);go_simp);first | done | with_reducible rfl)
 focus assumption
 (try simp only [Act.put,List.setIfInBounds_toArray,List.set_cons_zero,List.set_cons_succ])
 refine take_litD (i:=20) (oi:=?_) (v:=?_) ?_ ?_ ?_ ?_ ?_ (Or.inl ⟨?_, ?_⟩) ?_ ?_
 rotate_left
 rotate_left
 focus (simp only [List.getElem?_toArray,List.getElem?_cons_succ,List.getElem?_cons_zero];rfl)
 focus kernel_rfl
 focus kernel_rfl
 focus kernel_rfl
 focus (exact fun _ _ _ h => h)
 focus rfl
 focus ((intro w hSw;(try dsimp only at hSw);go_simp);first | done | with_reducible rfl)
 focus assumption
 (try simp only [Act.put,List.setIfInBounds_toArray,List.set_cons_zero,List.set_cons_succ])
 refine take_litD (i:=21) (oi:=?_) (v:=?_) ?_ ?_ ?_ ?_ ?_ (Or.inl ⟨?_, ?_⟩) ?_ ?_
 rotate_left
 rotate_left
 focus (simp only [List.getElem?_toArray,List.getElem?_cons_succ,List.getElem?_cons_zero];rfl)
 focus kernel_rfl
 focus kernel_rfl
 focus kernel_rfl
 focus (exact fun _ _ _ h => h)
 focus rfl
 focus ((intro w hSw;(try dsimp only at hSw);go_simp);first | done | with_reducible rfl)
 focus assumption
 (try simp only [Act.put,List.setIfInBounds_toArray,List.set_cons_zero,List.set_cons_succ])
 refine wpAnyH_ready (rs:=[22]) (by kernel_rfl) (by simp) ?_
 refine AllReadyH.cons (o:=_) rfl (fun K hK => ?_) AllReadyH.nil
 go_simp
 ((go_at_call 20;with_reducible refine (num18_any (k : Int) _).mono ?_);rintro _ w6 ⟨rfl,hb6⟩;have hb6s:=hb6.size;(try simp only [wsA,wsS,wsD,wsN] at hb6s);obtain ⟨hb6c,hb6f⟩:=bcell hb6;(try have : w.heap.size < w6.heap.size:=by omega);(try have : w.heap.size + 1 < w6.heap.size:=by omega);(try have : w.heap.size + 1 + 1 < w6.heap.size:=by omega);(try have : w.heap.size + 1 + 1 + 1 < w6.heap.size:=by omega);(try have : w2.heap.size < w6.heap.size:=by omega);(try have : w2.heap.size + 1 < w6.heap.size:=by omega);(try have : w2.heap.size + 1 + 1 < w6.heap.size:=by omega);(try have : w2.heap.size + 1 + 1 + 1 < w6.heap.size:=by omega);(try have : w3.heap.size < w6.heap.size:=by omega);(try have : w3.heap.size + 1 < w6.heap.size:=by omega);(try have : w3.heap.size + 1 + 1 < w6.heap.size:=by omega);(try have : w3.heap.size + 1 + 1 + 1 < w6.heap.size:=by omega);(try have : w4.heap.size < w6.heap.size:=by omega);(try have : w4.heap.size + 1 < w6.heap.size:=by omega);(try have : w4.heap.size + 1 + 1 < w6.heap.size:=by omega);(try have : w4.heap.size + 1 + 1 + 1 < w6.heap.size:=by omega);(try have : w5.heap.size < w6.heap.size:=by omega);(try have : w5.heap.size + 1 < w6.heap.size:=by omega);(try have : w5.heap.size + 1 + 1 < w6.heap.size:=by omega);(try have : w5.heap.size + 1 + 1 + 1 < w6.heap.size:=by omega))
 refine hK.out _ _ ?_ (fun hHeld => ?_)
 focus (first | (go_keep;done) | (simp [go_sem];done) | ((try dsimp only);(repeat' apply And.intro) <;> (first | (with_reducible assumption) | ((rw [World.cell?_alloc_lt _ _ _ (by show _ < _;omega)]);go_split_ands;(first | with_reducible assumption | (refine (World.cell?_alloc_lt _ _ _ (by show _ < _;omega)).symm.trans ?_;with_reducible assumption))) | ((rw [World.cell?_setCell_other _ _ _ _ (by intro e;injection e;omega)]);with_reducible assumption) | (go_keep;done) | (simp [go_sem];done) | (simp (disch:=go_size) [*,World.cell?_alloc_some,World.cell?_setCell_far];done))))
 clear hK K
 (try simp only [Act.put,List.setIfInBounds_toArray,List.set_cons_zero,List.set_cons_succ])
 refine wpAnyH_ready (rs:=[23]) (by kernel_rfl) (by simp) ?_
 refine AllReadyH.cons (o:=_) rfl (fun K hK => ?_) AllReadyH.nil
 go_simp
 ((go_at_call 12;with_reducible refine (HSN.out _ (by (repeat' first|(with_reducible first|exact blR _ _|assumption|refine blD ?_|refine blN ?_ _)|((with_reducible first|refine blA ?_ ?_ _|refine blS ?_ ?_ _|refine blT (by assumption) ?_ ?_);focus (go_size;done))))).mono ?_);rintro _ w7 ⟨rfl,hb7⟩;have hb7s:=hb7.size;(try simp only [wsA,wsS,wsD,wsN] at hb7s);obtain ⟨hb7c,hb7f⟩:=bcell hb7;(try have : w.heap.size < w7.heap.size:=by omega);(try have : w.heap.size + 1 < w7.heap.size:=by omega);(try have : w.heap.size + 1 + 1 < w7.heap.size:=by omega);(try have : w.heap.size + 1 + 1 + 1 < w7.heap.size:=by omega);(try have : w2.heap.size < w7.heap.size:=by omega);(try have : w2.heap.size + 1 < w7.heap.size:=by omega);(try have : w2.heap.size + 1 + 1 < w7.heap.size:=by omega);(try have : w2.heap.size + 1 + 1 + 1 < w7.heap.size:=by omega);(try have : w3.heap.size < w7.heap.size:=by omega);(try have : w3.heap.size + 1 < w7.heap.size:=by omega);(try have : w3.heap.size + 1 + 1 < w7.heap.size:=by omega);(try have : w3.heap.size + 1 + 1 + 1 < w7.heap.size:=by omega);(try have : w4.heap.size < w7.heap.size:=by omega);(try have : w4.heap.size + 1 < w7.heap.size:=by omega);(try have : w4.heap.size + 1 + 1 < w7.heap.size:=by omega);(try have : w4.heap.size + 1 + 1 + 1 < w7.heap.size:=by omega);(try have : w5.heap.size < w7.heap.size:=by omega);(try have : w5.heap.size + 1 < w7.heap.size:=by omega);(try have : w5.heap.size + 1 + 1 < w7.heap.size:=by omega);(try have : w5.heap.size + 1 + 1 + 1 < w7.heap.size:=by omega))
 refine hK.out _ _ ?_ (fun hHeld => ?_)
 focus (first | (go_keep;done) | (simp [go_sem];done) | ((try dsimp only);(repeat' apply And.intro) <;> (first | (with_reducible assumption) | ((rw [World.cell?_alloc_lt _ _ _ (by show _ < _;omega)]);go_split_ands;(first | with_reducible assumption | (refine (World.cell?_alloc_lt _ _ _ (by show _ < _;omega)).symm.trans ?_;with_reducible assumption))) | ((rw [World.cell?_setCell_other _ _ _ _ (by intro e;injection e;omega)]);with_reducible assumption) | (go_keep;done) | (simp [go_sem];done) | (simp (disch:=go_size) [*,World.cell?_alloc_some,World.cell?_setCell_far];done))))
 clear hK K
 (try simp only [Act.put,List.setIfInBounds_toArray,List.set_cons_zero,List.set_cons_succ])
 refine take_litD (i:=24) (oi:=?_) (v:=?_) ?_ ?_ ?_ ?_ ?_ (Or.inl ⟨?_, ?_⟩) ?_ ?_
 rotate_left
 rotate_left
 focus (simp only [List.getElem?_toArray,List.getElem?_cons_succ,List.getElem?_cons_zero];rfl)
 focus kernel_rfl
 focus kernel_rfl
 focus kernel_rfl
 focus (exact fun _ _ _ h => h)
 focus rfl
 focus ((intro w hSw;(try dsimp only at hSw);go_simp);first | done | with_reducible rfl)
 focus assumption
 (try simp only [Act.put,List.setIfInBounds_toArray,List.set_cons_zero,List.set_cons_succ])
 refine take_litD (i:=25) (oi:=?_) (v:=?_) ?_ ?_ ?_ ?_ ?_ (Or.inl ⟨?_, ?_⟩) ?_ ?_
 rotate_left
 rotate_left
 focus (simp only [List.getElem?_toArray,List.getElem?_cons_succ,List.getElem?_cons_zero];rfl)
 focus kernel_rfl
 focus kernel_rfl
 focus kernel_rfl
 focus (exact fun _ _ _ h => h)
 focus rfl
 focus ((intro w hSw;(try dsimp only at hSw);go_simp);first | done | with_reducible rfl)
 focus assumption
 (try simp only [Act.put,List.setIfInBounds_toArray,List.set_cons_zero,List.set_cons_succ])
 refine take_litD (i:=26) (oi:=?_) (v:=?_) ?_ ?_ ?_ ?_ ?_ (Or.inl ⟨?_, ?_⟩) ?_ ?_
 rotate_left
 rotate_left
 focus (simp only [List.getElem?_toArray,List.getElem?_cons_succ,List.getElem?_cons_zero];rfl)
 focus kernel_rfl
 focus kernel_rfl
 focus kernel_rfl
 focus (exact fun _ _ _ h => h)
 focus rfl
 focus ((intro w hSw;(try dsimp only at hSw);go_simp);first | done | with_reducible rfl)
 focus assumption
 (try simp only [Act.put,List.setIfInBounds_toArray,List.set_cons_zero,List.set_cons_succ])
 refine take_litD (i:=27) (oi:=?_) (v:=?_) ?_ ?_ ?_ ?_ ?_ (Or.inl ⟨?_, ?_⟩) ?_ ?_
 rotate_left
 rotate_left
 focus (simp only [List.getElem?_toArray,List.getElem?_cons_succ,List.getElem?_cons_zero];rfl)
 focus kernel_rfl
 focus kernel_rfl
 focus kernel_rfl
 focus (exact fun _ _ _ h => h)
 focus rfl
 focus ((intro w hSw;(try dsimp only at hSw);go_simp);first | done | with_reducible rfl)
 focus assumption
 (try simp only [Act.put,List.setIfInBounds_toArray,List.set_cons_zero,List.set_cons_succ])
 refine take_litD (i:=28) (oi:=?_) (v:=?_) ?_ ?_ ?_ ?_ ?_ (Or.inl ⟨?_, ?_⟩) ?_ ?_
 rotate_left
 rotate_left
 focus (simp only [List.getElem?_toArray,List.getElem?_cons_succ,List.getElem?_cons_zero];rfl)
 focus kernel_rfl
 focus kernel_rfl
 focus kernel_rfl
 focus (exact fun _ _ _ h => h)
 focus rfl
 focus ((intro w hSw;(try dsimp only at hSw);go_simp);first | done | with_reducible rfl)
 focus assumption
 (try simp only [Act.put,List.setIfInBounds_toArray,List.set_cons_zero,List.set_cons_succ])
 refine take_litD (i:=29) (oi:=?_) (v:=?_) ?_ ?_ ?_ ?_ ?_ (Or.inl ⟨?_, ?_⟩) ?_ ?_
 rotate_left
 rotate_left
 focus (simp only [List.getElem?_toArray,List.getElem?_cons_succ,List.getElem?_cons_zero];rfl)
 focus kernel_rfl
 focus kernel_rfl
 focus kernel_rfl
 focus (exact fun _ _ _ h => h)
 focus rfl
 focus ((intro w hSw;(try dsimp only at hSw);go_simp);first | done | with_reducible rfl)
 focus assumption
 (try simp only [Act.put,List.setIfInBounds_toArray,List.set_cons_zero,List.set_cons_succ])
 refine take_litD (i:=30) (oi:=?_) (v:=?_) ?_ ?_ ?_ ?_ ?_ (Or.inl ⟨?_, ?_⟩) ?_ ?_
 rotate_left
 rotate_left
 focus (simp only [List.getElem?_toArray,List.getElem?_cons_succ,List.getElem?_cons_zero];rfl)
 focus kernel_rfl
 focus kernel_rfl
 focus kernel_rfl
 focus (exact fun _ _ _ h => h)
 focus rfl
 focus ((intro w hSw;(try dsimp only at hSw);go_simp);first | done | with_reducible rfl)
 focus assumption
 (try simp only [Act.put,List.setIfInBounds_toArray,List.set_cons_zero,List.set_cons_succ])
 refine take_litD (i:=31) (oi:=?_) (v:=?_) ?_ ?_ ?_ ?_ ?_ (Or.inl ⟨?_, ?_⟩) ?_ ?_
 rotate_left
 rotate_left
 focus (simp only [List.getElem?_toArray,List.getElem?_cons_succ,List.getElem?_cons_zero];rfl)
 focus kernel_rfl
 focus kernel_rfl
 focus kernel_rfl
 focus (exact fun _ _ _ h => h)
 focus rfl
 focus ((intro w hSw;(try dsimp only at hSw);go_simp);first | done | with_reducible rfl)
 focus assumption
 (try simp only [Act.put,List.setIfInBounds_toArray,List.set_cons_zero,List.set_cons_succ])
 refine take_litD (i:=32) (oi:=?_) (v:=?_) ?_ ?_ ?_ ?_ ?_ (Or.inl ⟨?_, ?_⟩) ?_ ?_
 rotate_left
 rotate_left
 focus (simp only [List.getElem?_toArray,List.getElem?_cons_succ,List.getElem?_cons_zero];rfl)
 focus kernel_rfl
 focus kernel_rfl
 focus kernel_rfl
 focus (exact fun _ _ _ h => h)
 focus rfl
 focus ((intro w hSw;(try dsimp only at hSw);go_simp);first | done | with_reducible rfl)
 focus assumption
 (try simp only [Act.put,List.setIfInBounds_toArray,List.set_cons_zero,List.set_cons_succ])
 refine wpAnyH_done (by kernel_rfl) ?_ _
 obtain ⟨W2,hW2⟩ : ∃ W2 : World,W2 = w7:=⟨_,rfl⟩
 have hbx : Below W.heap.size W W2:=by
  rw [hW2]
  (repeat' first|(with_reducible first|exact blR _ _|assumption|refine blD ?_|refine blN ?_ _)|((with_reducible first|refine blA ?_ ?_ _|refine blS ?_ ?_ _|refine blT (by assumption) ?_ ?_);focus (go_size;done)))
 subst hW2
 have hbxs:=hbx.size
 have j9:=k9.below hbx l9
 have j10:=k10.below hbx l10
 have j8:=k8.below hbx l8
 have hbm2 : Below w2.heap.size w2 W2:=m2.trans (hbx.mono (by omega))
 have hbm3 : Below w3.heap.size w3 W2:=m3.trans (hbx.mono (by omega))
 have hbm4 : Below w4.heap.size w4 W2:=m4.trans (hbx.mono (by omega))
 have mb2 : Below w.heap.size w W2:=mb.trans (hbx.mono (by omega))
 clear nc0 nc1 nc2 nc3 nc4 nc5 nc6 nc7 nc8 nc9 q9 q10 k9 k10 k8 k11 kR m2 m3 m4 m5 mb hbx HSN hb6 hb6c hb6f hb7 hb7c hb7f hHeld
 have HLS:=Lib.hid (fun (X : World) (hX : Below w.heap.size w X) (h2 : Below w2.heap.size w2 X) (h3 : Below w3.heap.size w3 X) => HLE.out A10 C10 B10 D10 A9 C9 B9 D9 X (tabs_below HT.out hX) (va_below HV10.out h3) (va_below HV9.out h2))
 have f9:=j9.lt
 have f10:=j10.lt
 have f8:=j8.lt
 have ac0:=j9.cell 0 rfl
 have ac1:=j9.cell 1 rfl
 have ac2:=j9.cell 2 rfl
 have ac3:=j9.cell 3 rfl
 have ac4:=j9.cell 4 rfl
 have ac5:=j9.cell 5 rfl
 have ac6:=j9.cell 6 rfl
 have ac7:=j9.cell 7 rfl
 have ac8:=j9.cell 8 rfl
 have ac9:=j9.cell 9 rfl
 have ec0:=j10.cell 0 rfl
 have ec1:=j10.cell 1 rfl
 have ec2:=j10.cell 2 rfl
 have ec3:=j10.cell 3 rfl
 have ec4:=j10.cell 4 rfl
 have ec5:=j10.cell 5 rfl
 have ec6:=j10.cell 6 rfl
 have ec7:=j10.cell 7 rfl
 have ec8:=j10.cell 8 rfl
 have ec9:=j10.cell 9 rfl
 go_wp2_with (first | (go_at_call 21;(with_reducible refine (HLS.out _ (by (repeat' first|(with_reducible first|exact blR _ _|assumption|refine blD ?_|refine blN ?_ _)|((with_reducible first|refine blA ?_ ?_ _|refine blS ?_ ?_ _|refine blT (by assumption) ?_ ?_);focus (go_size;done)))) (by (repeat' first|(with_reducible first|exact blR _ _|assumption|refine blD ?_|refine blN ?_ _)|((with_reducible first|refine blA ?_ ?_ _|refine blS ?_ ?_ _|refine blT (by assumption) ?_ ?_);focus (go_size;done)))) (by (repeat' first|(with_reducible first|exact blR _ _|assumption|refine blD ?_|refine blN ?_ _)|((with_reducible first|refine blA ?_ ?_ _|refine blS ?_ ?_ _|refine blT (by assumption) ?_ ?_);focus (go_size;done))))).mono ?_);rintro _ w8 ⟨rfl,hb8⟩;have hb8s:=hb8.size;(try have : w.heap.size < w8.heap.size:=by omega);(try have : w.heap.size + 1 < w8.heap.size:=by omega);(try have : w.heap.size + 1 + 1 < w8.heap.size:=by omega);(try have : w.heap.size + 1 + 1 + 1 < w8.heap.size:=by omega);(try have : w2.heap.size < w8.heap.size:=by omega);(try have : w2.heap.size + 1 < w8.heap.size:=by omega);(try have : w2.heap.size + 1 + 1 < w8.heap.size:=by omega);(try have : w2.heap.size + 1 + 1 + 1 < w8.heap.size:=by omega);(try have : w3.heap.size < w8.heap.size:=by omega);(try have : w3.heap.size + 1 < w8.heap.size:=by omega);(try have : w3.heap.size + 1 + 1 < w8.heap.size:=by omega);(try have : w3.heap.size + 1 + 1 + 1 < w8.heap.size:=by omega);(try have : w4.heap.size < w8.heap.size:=by omega);(try have : w4.heap.size + 1 < w8.heap.size:=by omega);(try have : w4.heap.size + 1 + 1 < w8.heap.size:=by omega);(try have : w4.heap.size + 1 + 1 + 1 < w8.heap.size:=by omega);obtain ⟨hb8c,hb8f⟩:=bcell hb8))
 go_ret
 exact ⟨ret_bool (by simp),by (repeat' first|(with_reducible first|exact blR _ _|assumption|refine blD ?_|refine blN ?_ _)|((with_reducible first|refine blA ?_ ?_ _|refine blS ?_ ?_ _|refine blT (by assumption) ?_ ?_);focus (go_size;done)))⟩
set_option maxRecDepth 100000 in
set_option maxHeartbeats 8000000 in
theorem numbers_one (N O R V : Value) (n nn on vn NC OC RC VC0 : Nat) (NA OA RA VA0 : Option Addr) (hN : N = .slice NA nn NC) (hO : O = .slice OA on OC) (hR : R = .slice RA n RC) (hV : V = .slice VA0 vn VC0) (w : World) (HK : Hid (∀ W : World,Below w.heap.size w W → Calls Tryz.prog 9 #[] W fun e w' => e = .returned (.bool true) ∧ Below W.heap.size W w')) (hT : Tabs w) (k : Nat) (hk1 : k = 1) (bq : Bool) (HQ : Hid ((bq = true ∧ n = 0 ∧ 0 < vn ∧ k = 1) ∨ (bq = false ∧ ((n ≠ 0 ∧ k = n) ∨ (n = 0 ∧ vn = 0 ∧ k = 0))))) (hn6 : n ≤ 1048576) (hv6 : vn ≤ 1048576) (b : Bool) (c s : Nat) (hf : DForm b c s)
  (h9 : LDecV 9 (nV b (wd c 1) (wd c 0) s) (nmD b c s) 0 (.agg #[N,O,R,V]) w) (h10 : LDecV 10 (nV b (wd c 1) (wd c 0) s) (nmD b c s) 0 (.agg #[N,O,R,V]) w) (h8 : LDecV 8 (nV b (wd c 1) (wd c 0) s) (nmD b c s) 0 (.agg #[N,O,R,V]) w) (h11 : LDecV 11 (nV false 0 k 0) (nd k) 0 (.agg #[N,O,R,V]) w) :
  Calls Tryz.prog 8 #[.agg #[N,O,R,V]] w fun e w' => e = .returned (.bool true) ∧ Below w.heap.size w w':=by
 have ho : 0 ≤ ordD b (unit c s) b (unit c s):=by
  have h:=(ord_vI (an:=b) (x:=unit c s) (bn:=b) (y:=unit c s) (fun h => unit_zero hf h) (fun h => unit_zero hf h)).1
  have h3:=mt h.1 (Int.lt_irrefl _)
  omega
 have hle:=less_lit b c s b c s hf hf ho
 have hsm:=same_lit b c s
 have HT:=Lib.hid hT
 obtain ⟨x1,hx1⟩ : ∃ y,y = wd c 1:=⟨_,rfl⟩
 obtain ⟨x0,hx0⟩ : ∃ y,y = wd c 0:=⟨_,rfl⟩
 simp only [← hx1,← hx0] at hle hsm h9 h10 h8
 have HLE:=Lib.hid hle
 have HSM:=Lib.hid hsm
 clear hle hsm hT hf ho hx1 hx0
 subst hN hO hR hV
 unfold LDecV at h9 h10 h8 h11
 (try simp only [zV,nV] at h9 h10 h8 h11)
 have H9:=Lib.hid h9
 have H10:=Lib.hid h10
 have H8:=Lib.hid h8
 have H11:=Lib.hid h11
 clear h9 h10 h8 h11
 have hnc : (n : Int) ≤ 1048576:=by omega
 have hvc : (vn : Int) ≤ 1048576:=by omega
 have hkb : ((k : Int) != 1) = false:=by rw [bne_eq_false_iff_eq];omega
 have hk : k ≤ 60:=by omega
 clear hk1
 go_enter Tryz.func8,Tryz.ntmps8
 go_upto_region 10 with (first | ((go_at_call 9;with_reducible refine (HK.out _ (by (repeat' first|(with_reducible first|exact blR _ _|assumption|refine blD ?_|refine blN ?_ _)|((with_reducible first|refine blA ?_ ?_ _|refine blS ?_ ?_ _|refine blT (by assumption) ?_ ?_);focus (go_size;done))))).mono ?_);rintro _ w1 ⟨rfl,hb1⟩;have hb1s:=hb1.size;(try simp only [wsA,wsS,wsD,wsN] at hb1s);obtain ⟨hb1c,hb1f⟩:=bcell hb1;(try have : w.heap.size < w1.heap.size:=by omega);(try have : w.heap.size + 1 < w1.heap.size:=by omega);(try have : w.heap.size + 1 + 1 < w1.heap.size:=by omega);(try have : w.heap.size + 1 + 1 + 1 < w1.heap.size:=by omega)) | (go_at_call 11;(with_reducible refine (H9.out _ (by (repeat' first|(with_reducible first|exact blR _ _|assumption|refine blD ?_|refine blN ?_ _)|((with_reducible first|refine blA ?_ ?_ _|refine blS ?_ ?_ _|refine blT (by assumption) ?_ ?_);focus (go_size;done))))).mono ?_);rintro _ w2 ⟨A9,C9,B9,D9,rfl,hv9,hbw2⟩;have HV9:=Lib.hid hv9.va;clear hv9;have hbw2s:=hbw2.size;(try simp only [World.size_alloc] at hbw2s);(try have : w.heap.size < w2.heap.size:=by omega);(try have : w.heap.size + 1 < w2.heap.size:=by omega);(try have : w.heap.size + 1 + 1 < w2.heap.size:=by omega);(try have : w.heap.size + 1 + 1 + 1 < w2.heap.size:=by omega);(try have : w1.heap.size < w2.heap.size:=by omega);(try have : w1.heap.size + 1 < w2.heap.size:=by omega);(try have : w1.heap.size + 1 + 1 < w2.heap.size:=by omega);(try have : w1.heap.size + 1 + 1 + 1 < w2.heap.size:=by omega);obtain ⟨hbw2c,hbw2f⟩:=bcell hbw2) | (go_at_call 11;(with_reducible refine (H10.out _ (by (repeat' first|(with_reducible first|exact blR _ _|assumption|refine blD ?_|refine blN ?_ _)|((with_reducible first|refine blA ?_ ?_ _|refine blS ?_ ?_ _|refine blT (by assumption) ?_ ?_);focus (go_size;done))))).mono ?_);rintro _ w3 ⟨A10,C10,B10,D10,rfl,hv10,hbw3⟩;have HV10:=Lib.hid hv10.va;clear hv10;have hbw3s:=hbw3.size;(try simp only [World.size_alloc] at hbw3s);(try have : w.heap.size < w3.heap.size:=by omega);(try have : w.heap.size + 1 < w3.heap.size:=by omega);(try have : w.heap.size + 1 + 1 < w3.heap.size:=by omega);(try have : w.heap.size + 1 + 1 + 1 < w3.heap.size:=by omega);(try have : w2.heap.size < w3.heap.size:=by omega);(try have : w2.heap.size + 1 < w3.heap.size:=by omega);(try have : w2.heap.size + 1 + 1 < w3.heap.size:=by omega);(try have : w2.heap.size + 1 + 1 + 1 < w3.heap.size:=by omega);obtain ⟨hbw3c,hbw3f⟩:=bcell hbw3) | ((go_at_call 11;(with_reducible refine (H8.out _ (by (repeat' first|(with_reducible first|exact blR _ _|assumption|refine blD ?_|refine blN ?_ _)|((with_reducible first|refine blA ?_ ?_ _|refine blS ?_ ?_ _|refine blT (by assumption) ?_ ?_);focus (go_size;done))))).mono ?_);rintro _ w4 ⟨A8,C8,B8,D8,rfl,hv8,hbw4⟩;have HV8:=Lib.hid hv8.va;clear hv8;have hbw4s:=hbw4.size;(try simp only [World.size_alloc] at hbw4s);(try have : w.heap.size < w4.heap.size:=by omega);(try have : w.heap.size + 1 < w4.heap.size:=by omega);(try have : w.heap.size + 1 + 1 < w4.heap.size:=by omega);(try have : w.heap.size + 1 + 1 + 1 < w4.heap.size:=by omega);(try have : w3.heap.size < w4.heap.size:=by omega);(try have : w3.heap.size + 1 < w4.heap.size:=by omega);(try have : w3.heap.size + 1 + 1 < w4.heap.size:=by omega);(try have : w3.heap.size + 1 + 1 + 1 < w4.heap.size:=by omega);obtain ⟨hbw4c,hbw4f⟩:=bcell hbw4);(try have : w2.heap.size < w4.heap.size:=by omega);(try have : w2.heap.size + 1 < w4.heap.size:=by omega);(try have : w2.heap.size + 1 + 1 < w4.heap.size:=by omega);(try have : w2.heap.size + 1 + 1 + 1 < w4.heap.size:=by omega)) | ((go_at_call 11;(with_reducible refine (H11.out _ (by (repeat' first|(with_reducible first|exact blR _ _|assumption|refine blD ?_|refine blN ?_ _)|((with_reducible first|refine blA ?_ ?_ _|refine blS ?_ ?_ _|refine blT (by assumption) ?_ ?_);focus (go_size;done))))).mono ?_);rintro _ w5 ⟨A11,C11,B11,D11,rfl,hv11,hbw5⟩;have HV11:=Lib.hid hv11.va;clear hv11;have hbw5s:=hbw5.size;(try simp only [World.size_alloc] at hbw5s);(try have : w.heap.size < w5.heap.size:=by omega);(try have : w.heap.size + 1 < w5.heap.size:=by omega);(try have : w.heap.size + 1 + 1 < w5.heap.size:=by omega);(try have : w.heap.size + 1 + 1 + 1 < w5.heap.size:=by omega);(try have : w4.heap.size < w5.heap.size:=by omega);(try have : w4.heap.size + 1 < w5.heap.size:=by omega);(try have : w4.heap.size + 1 + 1 < w5.heap.size:=by omega);(try have : w4.heap.size + 1 + 1 + 1 < w5.heap.size:=by omega);obtain ⟨hbw5c,hbw5f⟩:=bcell hbw5);(try have : w2.heap.size < w5.heap.size:=by omega);(try have : w2.heap.size + 1 < w5.heap.size:=by omega);(try have : w2.heap.size + 1 + 1 < w5.heap.size:=by omega);(try have : w2.heap.size + 1 + 1 + 1 < w5.heap.size:=by omega);(try have : w3.heap.size < w5.heap.size:=by omega);(try have : w3.heap.size + 1 < w5.heap.size:=by omega);(try have : w3.heap.size + 1 + 1 < w5.heap.size:=by omega);(try have : w3.heap.size + 1 + 1 + 1 < w5.heap.size:=by omega)))
 generalize hW : w5.alloc _ = W
 have kR : Bk W w.heap.size 26 [.slice NA nn NC,.slice OA on OC,.slice RA n RC,.slice VA0 vn VC0]:=by
  rw [← hW]
  (repeat (first|(with_reducible assumption)|((with_reducible refine bkW ?_);(first|rfl|(simp only [wsA,wsS,wsD,wsN];done)))|(with_reducible first|refine bkA ?_ _|refine bkD ?_|refine bkN ?_ _)|((with_reducible refine bkF ?_ ?_ _);focus (simp only [];omega))|((with_reducible refine bkB (by assumption) ?_ ?_);focus (go_size;done))))
 have k9 : Bk W w2.heap.size 34 [.int .i64 2,.bool false,.bool b,.int .u64 x1,.int .u64 x0,.int .i64 (s : Int),.string ⟨#[]⟩,.int .i64 0,.slice A9 0 C9,.slice B9 0 D9]:=by
  rw [← hW]
  (repeat (first|(with_reducible assumption)|((with_reducible refine bkW ?_);(first|rfl|(simp only [wsA,wsS,wsD,wsN];done)))|(with_reducible first|refine bkA ?_ _|refine bkD ?_|refine bkN ?_ _)|((with_reducible refine bkF ?_ ?_ _);focus (simp only [];omega))|((with_reducible refine bkB (by assumption) ?_ ?_);focus (go_size;done))))
 have k10 : Bk W w3.heap.size 34 [.int .i64 2,.bool false,.bool b,.int .u64 x1,.int .u64 x0,.int .i64 (s : Int),.string ⟨#[]⟩,.int .i64 0,.slice A10 0 C10,.slice B10 0 D10]:=by
  rw [← hW]
  (repeat (first|(with_reducible assumption)|((with_reducible refine bkW ?_);(first|rfl|(simp only [wsA,wsS,wsD,wsN];done)))|(with_reducible first|refine bkA ?_ _|refine bkD ?_|refine bkN ?_ _)|((with_reducible refine bkF ?_ ?_ _);focus (simp only [];omega))|((with_reducible refine bkB (by assumption) ?_ ?_);focus (go_size;done))))
 have k8 : Bk W w4.heap.size 34 [.int .i64 2,.bool false,.bool b,.int .u64 x1,.int .u64 x0,.int .i64 (s : Int),.string ⟨#[]⟩,.int .i64 0,.slice A8 0 C8,.slice B8 0 D8]:=by
  rw [← hW]
  (repeat (first|(with_reducible assumption)|((with_reducible refine bkW ?_);(first|rfl|(simp only [wsA,wsS,wsD,wsN];done)))|(with_reducible first|refine bkA ?_ _|refine bkD ?_|refine bkN ?_ _)|((with_reducible refine bkF ?_ ?_ _);focus (simp only [];omega))|((with_reducible refine bkB (by assumption) ?_ ?_);focus (go_size;done))))
 have k11 : Bk W w5.heap.size 34 [.int .i64 2,.bool false,.bool false,.int .u64 0,.int .u64 k,.int .i64 0,.string ⟨#[]⟩,.int .i64 0,.slice A11 0 C11,.slice B11 0 D11]:=by
  rw [← hW]
  (repeat (first|(with_reducible assumption)|((with_reducible refine bkW ?_);(first|rfl|(simp only [wsA,wsS,wsD,wsN];done)))|(with_reducible first|refine bkA ?_ _|refine bkD ?_|refine bkN ?_ _)|((with_reducible refine bkF ?_ ?_ _);focus (simp only [];omega))|((with_reducible refine bkB (by assumption) ?_ ?_);focus (go_size;done))))
 have m2 : Below w2.heap.size w2 W:=by
  rw [← hW]
  (repeat' first|(with_reducible first|exact blR _ _|assumption|refine blD ?_|refine blN ?_ _)|((with_reducible first|refine blA ?_ ?_ _|refine blS ?_ ?_ _|refine blT (by assumption) ?_ ?_);focus (go_size;done)))
 have m3 : Below w3.heap.size w3 W:=by
  rw [← hW]
  (repeat' first|(with_reducible first|exact blR _ _|assumption|refine blD ?_|refine blN ?_ _)|((with_reducible first|refine blA ?_ ?_ _|refine blS ?_ ?_ _|refine blT (by assumption) ?_ ?_);focus (go_size;done)))
 have m4 : Below w4.heap.size w4 W:=by
  rw [← hW]
  (repeat' first|(with_reducible first|exact blR _ _|assumption|refine blD ?_|refine blN ?_ _)|((with_reducible first|refine blA ?_ ?_ _|refine blS ?_ ?_ _|refine blT (by assumption) ?_ ?_);focus (go_size;done)))
 have m5 : Below w5.heap.size w5 W:=by
  rw [← hW]
  (repeat' first|(with_reducible first|exact blR _ _|assumption|refine blD ?_|refine blN ?_ _)|((with_reducible first|refine blA ?_ ?_ _|refine blS ?_ ?_ _|refine blT (by assumption) ?_ ?_);focus (go_size;done)))
 have mb : Below w.heap.size w W:=by
  rw [← hW]
  (repeat' first|(with_reducible first|exact blR _ _|assumption|refine blD ?_|refine blN ?_ _)|((with_reducible first|refine blA ?_ ?_ _|refine blS ?_ ?_ _|refine blT (by assumption) ?_ ?_);focus (go_size;done)))
 clear hW hb1 hb1c hb1f hbw2 hbw2c hbw2f hbw3 hbw3c hbw3f hbw4 hbw4c hbw4f hbw5 hbw5c hbw5f
 go_cut [72] from 65 (fun s72 wx => s72 = .bool bq ∧ Hid (W = wx))
 case first =>
  have r0:=kR.cell 3 rfl
  rcases HQ.out with ⟨rfl,q1,q2,q3⟩ | ⟨rfl,q1⟩
  ·have e1 : ((n : Int) == 0) = true:=by rw [beq_iff_eq];omega
   have e2 : (0 : Int) < (vn : Int):=by omega
   clear q1 q3
   go_wp2_with fail
   go_meet
   exact ⟨rfl,Lib.hid rfl⟩
  ·rcases q1 with ⟨q1,q5⟩ | ⟨q1,q2,q5⟩
   ·have e1 : ((n : Int) == 0) = false:=by rw [beq_eq_false_iff_ne];omega
    clear q1 q5
    go_wp2_with fail
    go_meet
    exact ⟨rfl,Lib.hid rfl⟩
   ·have e1 : ((n : Int) == 0) = true:=by rw [beq_iff_eq];omega
    have e2 : ¬ (0 : Int) < (vn : Int):=by omega
    have e3 : ¬ 0 < vn:=by omega
    clear q1 q2 q5
    go_wp2_with fail
    go_meet
    exact ⟨rfl,Lib.hid rfl⟩
 case rest =>
 obtain ⟨rfl,hwc⟩:=hcut
 obtain rfl:=hwc.out
 go_upto_if 72 with (fail)
 go_cut [11] from 73 (fun s11 wx => s11 = .int .i64 (k : Int) ∧ Hid (W = wx))
 case first =>
  rcases HQ.out with ⟨rfl,q1,q2,q3⟩ | ⟨rfl,q1⟩
  ·have HQ3:=Lib.hid q3
   clear q1 q2 q3
   go_wp2_with fail
   go_meet
   exact ⟨by rw [HQ3.out];rfl,Lib.hid rfl⟩
  ·have HQ3 : Hid (k = n):=Lib.hid (by omega)
   clear q1
   go_wp2_with fail
   go_meet
   exact ⟨by rw [HQ3.out],Lib.hid rfl⟩
 case rest =>
 obtain ⟨rfl,hwc⟩:=hcut
 obtain rfl:=hwc.out
 have hk0 : (0 : Int) ≤ (k : Int):=by omega
 have hk6 : (k : Int) ≤ 60:=by omega
 have hwk : IntKind.u64.wrap (k : Int) = k:=IntWalk.u64_in _ (by omega)
 have HSN:=Lib.hid (fun (X : World) (hX : Below w5.heap.size w5 X) => same_nd hk A11 C11 B11 D11 X (va_below HV11.out hX))
 have l9:=k9.lt
 have l10:=k10.lt
 have l8:=k8.lt
 have l11:=k11.lt
 have lR:=kR.lt
 have q9:=k9.cell 0 rfl
 have q10:=k10.cell 0 rfl
 have nc0:=k11.cell 0 rfl
 have nc1:=k11.cell 1 rfl
 have nc2:=k11.cell 2 rfl
 have nc3:=k11.cell 3 rfl
 have nc4:=k11.cell 4 rfl
 have nc5:=k11.cell 5 rfl
 have nc6:=k11.cell 6 rfl
 have nc7:=k11.cell 7 rfl
 have nc8:=k11.cell 8 rfl
 have nc9:=k11.cell 9 rfl
 have mWs:=mb.size
 go_wp2_with fail
 refine wp_region_held_drew (S:=(fun w' => w'.cell? ⟨w2.heap.size,0,none⟩ = some (.int .i64 2) ∧ w'.cell? ⟨w3.heap.size,0,none⟩ = some (.int .i64 2) ∧ w'.cell? ⟨w5.heap.size,0,none⟩ = some (.int .i64 2) ∧ w'.cell? ⟨w5.heap.size,1,none⟩ = some (.bool false) ∧ w'.cell? ⟨w5.heap.size,2,none⟩ = some (.bool false) ∧ w'.cell? ⟨w5.heap.size,3,none⟩ = some (.int .u64 0) ∧ w'.cell? ⟨w5.heap.size,4,none⟩ = some (.int .u64 (k : Int)) ∧ w'.cell? ⟨w5.heap.size,5,none⟩ = some (.int .i64 0) ∧ w'.cell? ⟨w5.heap.size,6,none⟩ = some (.string ⟨#[]⟩) ∧ w'.cell? ⟨w5.heap.size,7,none⟩ = some (.int .i64 0) ∧ w'.cell? ⟨w5.heap.size,8,none⟩ = some (.slice A11 0 C11) ∧ w'.cell? ⟨w5.heap.size,9,none⟩ = some (.slice B11 0 D11))) (by kernel_rfl) ?_ (fun hHeld => ?_)
 focus (first | (go_keep;done) | (simp [go_sem];done) | ((try dsimp only);(repeat' apply And.intro) <;> (first | (with_reducible assumption) | ((rw [World.cell?_alloc_lt _ _ _ (by show _ < _;omega)]);go_split_ands;(first | with_reducible assumption | (refine (World.cell?_alloc_lt _ _ _ (by show _ < _;omega)).symm.trans ?_;with_reducible assumption))) | ((rw [World.cell?_setCell_other _ _ _ _ (by intro e;injection e;omega)]);with_reducible assumption) | (go_keep;done) | (simp [go_sem];done) | (simp (disch:=go_size) [*,World.cell?_alloc_some,World.cell?_setCell_far];done))))
 refine take_litD (i:=0) (oi:=?_) (v:=?_) ?_ ?_ ?_ ?_ ?_ (Or.inl ⟨?_, ?_⟩) ?_ ?_
 rotate_left
 rotate_left
 focus (simp only [List.getElem?_toArray,List.getElem?_cons_succ,List.getElem?_cons_zero];rfl)
 focus kernel_rfl
 focus kernel_rfl
 focus kernel_rfl
 focus (exact fun _ _ _ h => h)
 focus rfl
 focus ((intro w hSw;(try dsimp only at hSw);go_simp);first | done | with_reducible rfl)
 focus assumption
 (try simp only [Act.put,List.setIfInBounds_toArray,List.set_cons_zero,List.set_cons_succ])
 refine take_litD (i:=1) (oi:=?_) (v:=?_) ?_ ?_ ?_ ?_ ?_ (Or.inl ⟨?_, ?_⟩) ?_ ?_
 rotate_left
 rotate_left
 focus (simp only [List.getElem?_toArray,List.getElem?_cons_succ,List.getElem?_cons_zero];rfl)
 focus kernel_rfl
 focus kernel_rfl
 focus kernel_rfl
 focus (exact fun _ _ _ h => h)
 focus rfl
 focus ((intro w hSw;(try dsimp only at hSw);go_simp);first | done | with_reducible rfl)
 focus assumption
 (try simp only [Act.put,List.setIfInBounds_toArray,List.set_cons_zero,List.set_cons_succ])
 refine take_litD (i:=2) (oi:=?_) (v:=?_) ?_ ?_ ?_ ?_ ?_ (Or.inl ⟨?_, ?_⟩) ?_ ?_
 rotate_left
 rotate_left
 focus (simp only [List.getElem?_toArray,List.getElem?_cons_succ,List.getElem?_cons_zero];rfl)
 focus kernel_rfl
 focus kernel_rfl
 focus kernel_rfl
 focus (exact fun _ _ _ h => h)
 focus rfl
 focus ((intro w hSw;(try dsimp only at hSw);go_simp);first | done | with_reducible rfl)
 focus assumption
 (try simp only [Act.put,List.setIfInBounds_toArray,List.set_cons_zero,List.set_cons_succ])
 refine take_litD (i:=3) (oi:=?_) (v:=?_) ?_ ?_ ?_ ?_ ?_ (Or.inl ⟨?_, ?_⟩) ?_ ?_
 rotate_left
 rotate_left
 focus (simp only [List.getElem?_toArray,List.getElem?_cons_succ,List.getElem?_cons_zero];rfl)
 focus kernel_rfl
 focus kernel_rfl
 focus kernel_rfl
 focus (exact fun _ _ _ h => h)
 focus rfl
 focus ((intro w hSw;(try dsimp only at hSw);go_simp);first | done | with_reducible rfl)
 focus assumption
 (try simp only [Act.put,List.setIfInBounds_toArray,List.set_cons_zero,List.set_cons_succ])
 refine take_litD (i:=4) (oi:=?_) (v:=?_) ?_ ?_ ?_ ?_ ?_ (Or.inl ⟨?_, ?_⟩) ?_ ?_
 rotate_left
 rotate_left
 focus (simp only [List.getElem?_toArray,List.getElem?_cons_succ,List.getElem?_cons_zero];rfl)
 focus kernel_rfl
 focus kernel_rfl
 focus kernel_rfl
 focus (exact fun _ _ _ h => h)
 focus rfl
 focus ((intro w hSw;(try dsimp only at hSw);go_simp);first | done | with_reducible rfl)
 focus assumption
 (try simp only [Act.put,List.setIfInBounds_toArray,List.set_cons_zero,List.set_cons_succ])
 refine take_litD (i:=5) (oi:=?_) (v:=?_) ?_ ?_ ?_ ?_ ?_ (Or.inl ⟨?_, ?_⟩) ?_ ?_
 rotate_left
 rotate_left
 focus (simp only [List.getElem?_toArray,List.getElem?_cons_succ,List.getElem?_cons_zero];rfl)
 focus kernel_rfl
 focus kernel_rfl
 focus kernel_rfl
 focus (exact fun _ _ _ h => h)
 focus rfl
 focus ((intro w hSw;(try dsimp only at hSw);go_simp);first | done | with_reducible rfl)
 focus assumption
 (try simp only [Act.put,List.setIfInBounds_toArray,List.set_cons_zero,List.set_cons_succ])
 refine take_litD (i:=6) (oi:=?_) (v:=?_) ?_ ?_ ?_ ?_ ?_ (Or.inl ⟨?_, ?_⟩) ?_ ?_
 rotate_left
 rotate_left
 focus (simp only [List.getElem?_toArray,List.getElem?_cons_succ,List.getElem?_cons_zero];rfl)
 focus kernel_rfl
 focus kernel_rfl
 focus kernel_rfl
 focus (exact fun _ _ _ h => h)
 focus rfl
 focus ((intro w hSw;(try dsimp only at hSw);go_simp);first | done | with_reducible rfl)
 focus assumption
 (try simp only [Act.put,List.setIfInBounds_toArray,List.set_cons_zero,List.set_cons_succ])
 refine take_litD (i:=7) (oi:=?_) (v:=?_) ?_ ?_ ?_ ?_ ?_ (Or.inl ⟨?_, ?_⟩) ?_ ?_
 rotate_left
 rotate_left
 focus (simp only [List.getElem?_toArray,List.getElem?_cons_succ,List.getElem?_cons_zero];rfl)
 focus kernel_rfl
 focus kernel_rfl
 focus kernel_rfl
 focus (exact fun _ _ _ h => h)
 focus rfl
 focus ((intro w hSw;(try dsimp only at hSw);go_simp);first | done | with_reducible rfl)
 focus assumption
 (try simp only [Act.put,List.setIfInBounds_toArray,List.set_cons_zero,List.set_cons_succ])
 refine take_litD (i:=8) (oi:=?_) (v:=?_) ?_ ?_ ?_ ?_ ?_ (Or.inl ⟨?_, ?_⟩) ?_ ?_
 rotate_left
 rotate_left
 focus (simp only [List.getElem?_toArray,List.getElem?_cons_succ,List.getElem?_cons_zero];rfl)
 focus kernel_rfl
 focus kernel_rfl
 focus kernel_rfl
 focus (exact fun _ _ _ h => h)
 focus rfl
 focus ((intro w hSw;(try dsimp only at hSw);go_simp);first | done | with_reducible rfl)
 focus assumption
 (try simp only [Act.put,List.setIfInBounds_toArray,List.set_cons_zero,List.set_cons_succ])
 refine take_litD (i:=9) (oi:=?_) (v:=?_) ?_ ?_ ?_ ?_ ?_ (Or.inl ⟨?_, ?_⟩) ?_ ?_
 rotate_left
 rotate_left
 focus (simp only [List.getElem?_toArray,List.getElem?_cons_succ,List.getElem?_cons_zero];rfl)
 focus kernel_rfl
 focus kernel_rfl
 focus kernel_rfl
 focus (exact fun _ _ _ h => h)
 focus rfl
 focus ((intro w hSw;(try dsimp only at hSw);go_simp);first | done | with_reducible rfl)
 focus assumption
 (try simp only [Act.put,List.setIfInBounds_toArray,List.set_cons_zero,List.set_cons_succ])
 refine take_litD (i:=10) (oi:=?_) (v:=?_) ?_ ?_ ?_ ?_ ?_ (Or.inl ⟨?_, ?_⟩) ?_ ?_
 rotate_left
 rotate_left
 focus (simp only [List.getElem?_toArray,List.getElem?_cons_succ,List.getElem?_cons_zero];rfl)
 focus kernel_rfl
 focus kernel_rfl
 focus kernel_rfl
 focus (exact fun _ _ _ h => h)
 focus rfl
 focus ((intro w hSw;(try dsimp only at hSw);go_simp);first | done | with_reducible rfl)
 focus assumption
 (try simp only [Act.put,List.setIfInBounds_toArray,List.set_cons_zero,List.set_cons_succ])
 refine take_litD (i:=11) (oi:=?_) (v:=?_) ?_ ?_ ?_ ?_ ?_ (Or.inl ⟨?_, ?_⟩) ?_ ?_
 rotate_left
 rotate_left
 focus (simp only [List.getElem?_toArray,List.getElem?_cons_succ,List.getElem?_cons_zero];rfl)
 focus kernel_rfl
 focus kernel_rfl
 focus kernel_rfl
 focus (exact fun _ _ _ h => h)
 focus rfl
 focus ((intro w hSw;(try dsimp only at hSw);go_simp);first | done | with_reducible rfl)
 focus assumption
 (try simp only [Act.put,List.setIfInBounds_toArray,List.set_cons_zero,List.set_cons_succ])
 refine take_litD (i:=12) (oi:=?_) (v:=?_) ?_ ?_ ?_ ?_ ?_ (Or.inl ⟨?_, ?_⟩) ?_ ?_
 rotate_left
 rotate_left
 focus (simp only [List.getElem?_toArray,List.getElem?_cons_succ,List.getElem?_cons_zero];rfl)
 focus kernel_rfl
 focus kernel_rfl
 focus kernel_rfl
 focus (exact fun _ _ _ h => h)
 focus rfl
 focus ((intro w hSw;(try dsimp only at hSw);go_simp);first | done | with_reducible rfl)
 focus assumption
 (try simp only [Act.put,List.setIfInBounds_toArray,List.set_cons_zero,List.set_cons_succ])
 refine take_litD (i:=13) (oi:=?_) (v:=?_) ?_ ?_ ?_ ?_ ?_ (Or.inl ⟨?_, ?_⟩) ?_ ?_
 rotate_left
 rotate_left
 focus (simp only [List.getElem?_toArray,List.getElem?_cons_succ,List.getElem?_cons_zero];rfl)
 focus kernel_rfl
 focus kernel_rfl
 focus kernel_rfl
 focus (exact fun _ _ _ h => h)
 focus rfl
 focus ((intro w hSw;(try dsimp only at hSw);go_simp);first | done | with_reducible rfl)
 focus assumption
 (try simp only [Act.put,List.setIfInBounds_toArray,List.set_cons_zero,List.set_cons_succ])
 refine take_litD (i:=14) (oi:=?_) (v:=undef) ?_ ?_ ?_ ?_ ?_ (Or.inr ⟨?_,rfl⟩) ?_ ?_
 rotate_left
 focus (simp only [List.getElem?_toArray,List.getElem?_cons_succ,List.getElem?_cons_zero];rfl)
 focus kernel_rfl
 focus kernel_rfl
 focus kernel_rfl
 focus (exact fun _ _ _ h => h)
 focus rfl
 focus assumption
 (try simp only [Act.put,List.setIfInBounds_toArray,List.set_cons_zero,List.set_cons_succ])
 refine take_litD (i:=15) (oi:=?_) (v:=undef) ?_ ?_ ?_ ?_ ?_ (Or.inr ⟨?_,rfl⟩) ?_ ?_
 rotate_left
 focus (simp only [List.getElem?_toArray,List.getElem?_cons_succ,List.getElem?_cons_zero];rfl)
 focus kernel_rfl
 focus kernel_rfl
 focus kernel_rfl
 focus (exact fun _ _ _ h => h)
 focus rfl
 focus assumption
 (try simp only [Act.put,List.setIfInBounds_toArray,List.set_cons_zero,List.set_cons_succ])
 refine take_litD (i:=16) (oi:=?_) (v:=?_) ?_ ?_ ?_ ?_ ?_ (Or.inl ⟨?_, ?_⟩) ?_ ?_
 rotate_left
 rotate_left
 focus (simp only [List.getElem?_toArray,List.getElem?_cons_succ,List.getElem?_cons_zero];rfl)
 focus kernel_rfl
 focus kernel_rfl
 focus kernel_rfl
 focus (exact fun _ _ _ h => h)
 focus rfl
 focus ((intro w hSw;(try dsimp only at hSw);go_simp);first | done | with_reducible rfl)
 focus assumption
 (try simp only [Act.put,List.setIfInBounds_toArray,List.set_cons_zero,List.set_cons_succ])
 refine take_litD (i:=17) (oi:=?_) (v:=?_) ?_ ?_ ?_ ?_ ?_ (Or.inl ⟨?_, ?_⟩) ?_ ?_
 rotate_left
 rotate_left
 focus (simp only [List.getElem?_toArray,List.getElem?_cons_succ,List.getElem?_cons_zero];rfl)
 focus kernel_rfl
 focus kernel_rfl
 focus kernel_rfl
 focus (exact fun _ _ _ h => h)
 focus rfl
 focus ((intro w hSw;(try dsimp only at hSw);go_simp);first | done | with_reducible rfl)
 focus assumption
 (try simp only [Act.put,List.setIfInBounds_toArray,List.set_cons_zero,List.set_cons_succ])
 refine take_litD (i:=18) (oi:=?_) (v:=?_) ?_ ?_ ?_ ?_ ?_ (Or.inl ⟨?_, ?_⟩) ?_ ?_
 rotate_left
 rotate_left
 focus (simp only [List.getElem?_toArray,List.getElem?_cons_succ,List.getElem?_cons_zero];rfl)
 focus kernel_rfl
 focus kernel_rfl
 focus kernel_rfl
 focus (exact fun _ _ _ h => h)
 focus rfl
 focus ((intro w hSw;(try dsimp only at hSw);go_simp);first | done | with_reducible rfl)
 focus assumption
 (try simp only [Act.put,List.setIfInBounds_toArray,List.set_cons_zero,List.set_cons_succ])
 refine take_litD (i:=19) (oi:=?_) (v:=?_) ?_ ?_ ?_ ?_ ?_ (Or.inl ⟨?_, ?_⟩) ?_ ?_
 rotate_left
 rotate_left
 focus (simp only [List.getElem?_toArray,List.getElem?_cons_succ,List.getElem?_cons_zero];rfl)
 focus kernel_rfl
 focus kernel_rfl
 focus kernel_rfl
 focus (exact fun _ _ _ h => h)
 focus rfl
 focus ((intro w hSw;(try dsimp only at hSw);go_simp);first | done | with_reducible rfl)
 focus assumption
 (try simp only [Act.put,List.setIfInBounds_toArray,List.set_cons_zero,List.set_cons_succ])
 refine take_litD (i:=20) (oi:=?_) (v:=?_) ?_ ?_ ?_ ?_ ?_ (Or.inl ⟨?_, ?_⟩) ?_ ?_
 rotate_left
 rotate_left
 focus (simp only [List.getElem?_toArray,List.getElem?_cons_succ,List.getElem?_cons_zero];rfl)
 focus kernel_rfl
 focus kernel_rfl
 focus kernel_rfl
 focus (exact fun _ _ _ h => h)
 focus rfl
 focus ((intro w hSw;(try dsimp only at hSw);go_simp);first | done | with_reducible rfl)
 focus assumption
 (try simp only [Act.put,List.setIfInBounds_toArray,List.set_cons_zero,List.set_cons_succ])
 refine take_litD (i:=21) (oi:=?_) (v:=?_) ?_ ?_ ?_ ?_ ?_ (Or.inl ⟨?_, ?_⟩) ?_ ?_
 rotate_left
 rotate_left
 focus (simp only [List.getElem?_toArray,List.getElem?_cons_succ,List.getElem?_cons_zero];rfl)
 focus kernel_rfl
 focus kernel_rfl
 focus kernel_rfl
 focus (exact fun _ _ _ h => h)
 focus rfl
 focus ((intro w hSw;(try dsimp only at hSw);go_simp);first | done | with_reducible rfl)
 focus assumption
 (try simp only [Act.put,List.setIfInBounds_toArray,List.set_cons_zero,List.set_cons_succ])
 refine wpAnyH_ready (rs:=[22]) (by kernel_rfl) (by simp) ?_
 refine AllReadyH.cons (o:=_) rfl (fun K hK => ?_) AllReadyH.nil
 go_simp
 ((go_at_call 20;with_reducible refine (num18_any (k : Int) _).mono ?_);rintro _ w6 ⟨rfl,hb6⟩;have hb6s:=hb6.size;(try simp only [wsA,wsS,wsD,wsN] at hb6s);obtain ⟨hb6c,hb6f⟩:=bcell hb6;(try have : w.heap.size < w6.heap.size:=by omega);(try have : w.heap.size + 1 < w6.heap.size:=by omega);(try have : w.heap.size + 1 + 1 < w6.heap.size:=by omega);(try have : w.heap.size + 1 + 1 + 1 < w6.heap.size:=by omega);(try have : w2.heap.size < w6.heap.size:=by omega);(try have : w2.heap.size + 1 < w6.heap.size:=by omega);(try have : w2.heap.size + 1 + 1 < w6.heap.size:=by omega);(try have : w2.heap.size + 1 + 1 + 1 < w6.heap.size:=by omega);(try have : w3.heap.size < w6.heap.size:=by omega);(try have : w3.heap.size + 1 < w6.heap.size:=by omega);(try have : w3.heap.size + 1 + 1 < w6.heap.size:=by omega);(try have : w3.heap.size + 1 + 1 + 1 < w6.heap.size:=by omega);(try have : w4.heap.size < w6.heap.size:=by omega);(try have : w4.heap.size + 1 < w6.heap.size:=by omega);(try have : w4.heap.size + 1 + 1 < w6.heap.size:=by omega);(try have : w4.heap.size + 1 + 1 + 1 < w6.heap.size:=by omega);(try have : w5.heap.size < w6.heap.size:=by omega);(try have : w5.heap.size + 1 < w6.heap.size:=by omega);(try have : w5.heap.size + 1 + 1 < w6.heap.size:=by omega);(try have : w5.heap.size + 1 + 1 + 1 < w6.heap.size:=by omega))
 refine hK.out _ _ ?_ (fun hHeld => ?_)
 focus (first | (go_keep;done) | (simp [go_sem];done) | ((try dsimp only);(repeat' apply And.intro) <;> (first | (with_reducible assumption) | ((rw [World.cell?_alloc_lt _ _ _ (by show _ < _;omega)]);go_split_ands;(first | with_reducible assumption | (refine (World.cell?_alloc_lt _ _ _ (by show _ < _;omega)).symm.trans ?_;with_reducible assumption))) | ((rw [World.cell?_setCell_other _ _ _ _ (by intro e;injection e;omega)]);with_reducible assumption) | (go_keep;done) | (simp [go_sem];done) | (simp (disch:=go_size) [*,World.cell?_alloc_some,World.cell?_setCell_far];done))))
 clear hK K
 (try simp only [Act.put,List.setIfInBounds_toArray,List.set_cons_zero,List.set_cons_succ])
 refine wpAnyH_ready (rs:=[23]) (by kernel_rfl) (by simp) ?_
 refine AllReadyH.cons (o:=_) rfl (fun K hK => ?_) AllReadyH.nil
 go_simp
 ((go_at_call 12;with_reducible refine (HSN.out _ (by (repeat' first|(with_reducible first|exact blR _ _|assumption|refine blD ?_|refine blN ?_ _)|((with_reducible first|refine blA ?_ ?_ _|refine blS ?_ ?_ _|refine blT (by assumption) ?_ ?_);focus (go_size;done))))).mono ?_);rintro _ w7 ⟨rfl,hb7⟩;have hb7s:=hb7.size;(try simp only [wsA,wsS,wsD,wsN] at hb7s);obtain ⟨hb7c,hb7f⟩:=bcell hb7;(try have : w.heap.size < w7.heap.size:=by omega);(try have : w.heap.size + 1 < w7.heap.size:=by omega);(try have : w.heap.size + 1 + 1 < w7.heap.size:=by omega);(try have : w.heap.size + 1 + 1 + 1 < w7.heap.size:=by omega);(try have : w2.heap.size < w7.heap.size:=by omega);(try have : w2.heap.size + 1 < w7.heap.size:=by omega);(try have : w2.heap.size + 1 + 1 < w7.heap.size:=by omega);(try have : w2.heap.size + 1 + 1 + 1 < w7.heap.size:=by omega);(try have : w3.heap.size < w7.heap.size:=by omega);(try have : w3.heap.size + 1 < w7.heap.size:=by omega);(try have : w3.heap.size + 1 + 1 < w7.heap.size:=by omega);(try have : w3.heap.size + 1 + 1 + 1 < w7.heap.size:=by omega);(try have : w4.heap.size < w7.heap.size:=by omega);(try have : w4.heap.size + 1 < w7.heap.size:=by omega);(try have : w4.heap.size + 1 + 1 < w7.heap.size:=by omega);(try have : w4.heap.size + 1 + 1 + 1 < w7.heap.size:=by omega);(try have : w5.heap.size < w7.heap.size:=by omega);(try have : w5.heap.size + 1 < w7.heap.size:=by omega);(try have : w5.heap.size + 1 + 1 < w7.heap.size:=by omega);(try have : w5.heap.size + 1 + 1 + 1 < w7.heap.size:=by omega))
 refine hK.out _ _ ?_ (fun hHeld => ?_)
 focus (first | (go_keep;done) | (simp [go_sem];done) | ((try dsimp only);(repeat' apply And.intro) <;> (first | (with_reducible assumption) | ((rw [World.cell?_alloc_lt _ _ _ (by show _ < _;omega)]);go_split_ands;(first | with_reducible assumption | (refine (World.cell?_alloc_lt _ _ _ (by show _ < _;omega)).symm.trans ?_;with_reducible assumption))) | ((rw [World.cell?_setCell_other _ _ _ _ (by intro e;injection e;omega)]);with_reducible assumption) | (go_keep;done) | (simp [go_sem];done) | (simp (disch:=go_size) [*,World.cell?_alloc_some,World.cell?_setCell_far];done))))
 clear hK K
 (try simp only [Act.put,List.setIfInBounds_toArray,List.set_cons_zero,List.set_cons_succ])
 refine take_litD (i:=24) (oi:=?_) (v:=?_) ?_ ?_ ?_ ?_ ?_ (Or.inl ⟨?_, ?_⟩) ?_ ?_
 rotate_left
 rotate_left
 focus (simp only [List.getElem?_toArray,List.getElem?_cons_succ,List.getElem?_cons_zero];rfl)
 focus kernel_rfl
 focus kernel_rfl
 focus kernel_rfl
 focus (exact fun _ _ _ h => h)
 focus rfl
 focus ((intro w hSw;(try dsimp only at hSw);go_simp);first | done | with_reducible rfl)
 focus assumption
 (try simp only [Act.put,List.setIfInBounds_toArray,List.set_cons_zero,List.set_cons_succ])
 refine take_litD (i:=25) (oi:=?_) (v:=?_) ?_ ?_ ?_ ?_ ?_ (Or.inl ⟨?_, ?_⟩) ?_ ?_
 rotate_left
 rotate_left
 focus (simp only [List.getElem?_toArray,List.getElem?_cons_succ,List.getElem?_cons_zero];rfl)
 focus kernel_rfl
 focus kernel_rfl
 focus kernel_rfl
 focus (exact fun _ _ _ h => h)
 focus rfl
 focus ((intro w hSw;(try dsimp only at hSw);go_simp);first | done | with_reducible rfl)
 focus assumption
 (try simp only [Act.put,List.setIfInBounds_toArray,List.set_cons_zero,List.set_cons_succ])
 refine take_litD (i:=26) (oi:=?_) (v:=?_) ?_ ?_ ?_ ?_ ?_ (Or.inl ⟨?_, ?_⟩) ?_ ?_
 rotate_left
 rotate_left
 focus (simp only [List.getElem?_toArray,List.getElem?_cons_succ,List.getElem?_cons_zero];rfl)
 focus kernel_rfl
 focus kernel_rfl
 focus kernel_rfl
 focus (exact fun _ _ _ h => h)
 focus rfl
 focus ((intro w hSw;(try dsimp only at hSw);go_simp);first | done | with_reducible rfl)
 focus assumption
 (try simp only [Act.put,List.setIfInBounds_toArray,List.set_cons_zero,List.set_cons_succ])
 refine take_litD (i:=27) (oi:=?_) (v:=?_) ?_ ?_ ?_ ?_ ?_ (Or.inl ⟨?_, ?_⟩) ?_ ?_
 rotate_left
 rotate_left
 focus (simp only [List.getElem?_toArray,List.getElem?_cons_succ,List.getElem?_cons_zero];rfl)
 focus kernel_rfl
 focus kernel_rfl
 focus kernel_rfl
 focus (exact fun _ _ _ h => h)
 focus rfl
 focus ((intro w hSw;(try dsimp only at hSw);go_simp);first | done | with_reducible rfl)
 focus assumption
 (try simp only [Act.put,List.setIfInBounds_toArray,List.set_cons_zero,List.set_cons_succ])
 refine take_litD (i:=28) (oi:=?_) (v:=?_) ?_ ?_ ?_ ?_ ?_ (Or.inl ⟨?_, ?_⟩) ?_ ?_
 rotate_left
 rotate_left
 focus (simp only [List.getElem?_toArray,List.getElem?_cons_succ,List.getElem?_cons_zero];rfl)
 focus kernel_rfl
 focus kernel_rfl
 focus kernel_rfl
 focus (exact fun _ _ _ h => h)
 focus rfl
 focus ((intro w hSw;(try dsimp only at hSw);go_simp);first | done | with_reducible rfl)
 focus assumption
 (try simp only [Act.put,List.setIfInBounds_toArray,List.set_cons_zero,List.set_cons_succ])
 refine take_litD (i:=29) (oi:=?_) (v:=?_) ?_ ?_ ?_ ?_ ?_ (Or.inl ⟨?_, ?_⟩) ?_ ?_
 rotate_left
 rotate_left
 focus (simp only [List.getElem?_toArray,List.getElem?_cons_succ,List.getElem?_cons_zero];rfl)
 focus kernel_rfl
 focus kernel_rfl
 focus kernel_rfl
 focus (exact fun _ _ _ h => h)
 focus rfl
 focus ((intro w hSw;(try dsimp only at hSw);go_simp);first | done | with_reducible rfl)
 focus assumption
 (try simp only [Act.put,List.setIfInBounds_toArray,List.set_cons_zero,List.set_cons_succ])
 refine take_litD (i:=30) (oi:=?_) (v:=?_) ?_ ?_ ?_ ?_ ?_ (Or.inl ⟨?_, ?_⟩) ?_ ?_
 rotate_left
 rotate_left
 focus (simp only [List.getElem?_toArray,List.getElem?_cons_succ,List.getElem?_cons_zero];rfl)
 focus kernel_rfl
 focus kernel_rfl
 focus kernel_rfl
 focus (exact fun _ _ _ h => h)
 focus rfl
 focus ((intro w hSw;(try dsimp only at hSw);go_simp);first | done | with_reducible rfl)
 focus assumption
 (try simp only [Act.put,List.setIfInBounds_toArray,List.set_cons_zero,List.set_cons_succ])
 refine take_litD (i:=31) (oi:=?_) (v:=?_) ?_ ?_ ?_ ?_ ?_ (Or.inl ⟨?_, ?_⟩) ?_ ?_
 rotate_left
 rotate_left
 focus (simp only [List.getElem?_toArray,List.getElem?_cons_succ,List.getElem?_cons_zero];rfl)
 focus kernel_rfl
 focus kernel_rfl
 focus kernel_rfl
 focus (exact fun _ _ _ h => h)
 focus rfl
 focus ((intro w hSw;(try dsimp only at hSw);go_simp);first | done | with_reducible rfl)
 focus assumption
 (try simp only [Act.put,List.setIfInBounds_toArray,List.set_cons_zero,List.set_cons_succ])
 refine take_litD (i:=32) (oi:=?_) (v:=?_) ?_ ?_ ?_ ?_ ?_ (Or.inl ⟨?_, ?_⟩) ?_ ?_
 rotate_left
 rotate_left
 focus (simp only [List.getElem?_toArray,List.getElem?_cons_succ,List.getElem?_cons_zero];rfl)
 focus kernel_rfl
 focus kernel_rfl
 focus kernel_rfl
 focus (exact fun _ _ _ h => h)
 focus rfl
 focus ((intro w hSw;(try dsimp only at hSw);go_simp);first | done | with_reducible rfl)
 focus assumption
 (try simp only [Act.put,List.setIfInBounds_toArray,List.set_cons_zero,List.set_cons_succ])
 refine wpAnyH_done (by kernel_rfl) ?_ _
 obtain ⟨W2,hW2⟩ : ∃ W2 : World,W2 = w7:=⟨_,rfl⟩
 have hbx : Below W.heap.size W W2:=by
  rw [hW2]
  (repeat' first|(with_reducible first|exact blR _ _|assumption|refine blD ?_|refine blN ?_ _)|((with_reducible first|refine blA ?_ ?_ _|refine blS ?_ ?_ _|refine blT (by assumption) ?_ ?_);focus (go_size;done)))
 subst hW2
 have hbxs:=hbx.size
 have j9:=k9.below hbx l9
 have j10:=k10.below hbx l10
 have j8:=k8.below hbx l8
 have hbm2 : Below w2.heap.size w2 W2:=m2.trans (hbx.mono (by omega))
 have hbm3 : Below w3.heap.size w3 W2:=m3.trans (hbx.mono (by omega))
 have hbm4 : Below w4.heap.size w4 W2:=m4.trans (hbx.mono (by omega))
 have mb2 : Below w.heap.size w W2:=mb.trans (hbx.mono (by omega))
 clear nc0 nc1 nc2 nc3 nc4 nc5 nc6 nc7 nc8 nc9 q9 q10 k9 k10 k8 k11 kR m2 m3 m4 m5 mb hbx HSN hb6 hb6c hb6f hb7 hb7c hb7f hHeld
 have HLS:=Lib.hid (fun (X : World) (hX : Below w.heap.size w X) (h2 : Below w2.heap.size w2 X) (h3 : Below w3.heap.size w3 X) => HLE.out A10 C10 B10 D10 A9 C9 B9 D9 X (tabs_below HT.out hX) (va_below HV10.out h3) (va_below HV9.out h2))
 have f9:=j9.lt
 have f10:=j10.lt
 have f8:=j8.lt
 have ac0:=j9.cell 0 rfl
 have ac1:=j9.cell 1 rfl
 have ac2:=j9.cell 2 rfl
 have ac3:=j9.cell 3 rfl
 have ac4:=j9.cell 4 rfl
 have ac5:=j9.cell 5 rfl
 have ac6:=j9.cell 6 rfl
 have ac7:=j9.cell 7 rfl
 have ac8:=j9.cell 8 rfl
 have ac9:=j9.cell 9 rfl
 have ec0:=j10.cell 0 rfl
 have ec1:=j10.cell 1 rfl
 have ec2:=j10.cell 2 rfl
 have ec3:=j10.cell 3 rfl
 have ec4:=j10.cell 4 rfl
 have ec5:=j10.cell 5 rfl
 have ec6:=j10.cell 6 rfl
 have ec7:=j10.cell 7 rfl
 have ec8:=j10.cell 8 rfl
 have ec9:=j10.cell 9 rfl
 have ic0:=j8.cell 0 rfl
 have ic1:=j8.cell 1 rfl
 have ic2:=j8.cell 2 rfl
 have ic3:=j8.cell 3 rfl
 have ic4:=j8.cell 4 rfl
 have ic5:=j8.cell 5 rfl
 have ic6:=j8.cell 6 rfl
 have ic7:=j8.cell 7 rfl
 have ic8:=j8.cell 8 rfl
 have ic9:=j8.cell 9 rfl
 go_wp2_with (first | (go_at_call 21;(with_reducible refine (HLS.out _ (by (repeat' first|(with_reducible first|exact blR _ _|assumption|refine blD ?_|refine blN ?_ _)|((with_reducible first|refine blA ?_ ?_ _|refine blS ?_ ?_ _|refine blT (by assumption) ?_ ?_);focus (go_size;done)))) (by (repeat' first|(with_reducible first|exact blR _ _|assumption|refine blD ?_|refine blN ?_ _)|((with_reducible first|refine blA ?_ ?_ _|refine blS ?_ ?_ _|refine blT (by assumption) ?_ ?_);focus (go_size;done)))) (by (repeat' first|(with_reducible first|exact blR _ _|assumption|refine blD ?_|refine blN ?_ _)|((with_reducible first|refine blA ?_ ?_ _|refine blS ?_ ?_ _|refine blT (by assumption) ?_ ?_);focus (go_size;done))))).mono ?_);rintro _ w8 ⟨rfl,hb8⟩;have hb8s:=hb8.size;(try have : w.heap.size < w8.heap.size:=by omega);(try have : w.heap.size + 1 < w8.heap.size:=by omega);(try have : w.heap.size + 1 + 1 < w8.heap.size:=by omega);(try have : w.heap.size + 1 + 1 + 1 < w8.heap.size:=by omega);(try have : w2.heap.size < w8.heap.size:=by omega);(try have : w2.heap.size + 1 < w8.heap.size:=by omega);(try have : w2.heap.size + 1 + 1 < w8.heap.size:=by omega);(try have : w2.heap.size + 1 + 1 + 1 < w8.heap.size:=by omega);(try have : w3.heap.size < w8.heap.size:=by omega);(try have : w3.heap.size + 1 < w8.heap.size:=by omega);(try have : w3.heap.size + 1 + 1 < w8.heap.size:=by omega);(try have : w3.heap.size + 1 + 1 + 1 < w8.heap.size:=by omega);(try have : w4.heap.size < w8.heap.size:=by omega);(try have : w4.heap.size + 1 < w8.heap.size:=by omega);(try have : w4.heap.size + 1 + 1 < w8.heap.size:=by omega);(try have : w4.heap.size + 1 + 1 + 1 < w8.heap.size:=by omega);obtain ⟨hb8c,hb8f⟩:=bcell hb8) | (go_at_call 12;(with_reducible refine (HSM.out A8 C8 B8 D8 A9 C9 B9 D9 _ (va_below HV8.out (by (repeat' first|(with_reducible first|exact blR _ _|assumption|refine blD ?_|refine blN ?_ _)|((with_reducible first|refine blA ?_ ?_ _|refine blS ?_ ?_ _|refine blT (by assumption) ?_ ?_);focus (go_size;done))))) (va_below HV9.out (by (repeat' first|(with_reducible first|exact blR _ _|assumption|refine blD ?_|refine blN ?_ _)|((with_reducible first|refine blA ?_ ?_ _|refine blS ?_ ?_ _|refine blT (by assumption) ?_ ?_);focus (go_size;done)))))).mono ?_);rintro _ w10 ⟨rfl,hb10⟩;have hb10s:=hb10.size;(try simp only [World.size_alloc] at hb10s);(try have : w.heap.size < w10.heap.size:=by omega);(try have : w.heap.size + 1 < w10.heap.size:=by omega);(try have : w.heap.size + 1 + 1 < w10.heap.size:=by omega);(try have : w.heap.size + 1 + 1 + 1 < w10.heap.size:=by omega);(try have : w2.heap.size < w10.heap.size:=by omega);(try have : w2.heap.size + 1 < w10.heap.size:=by omega);(try have : w2.heap.size + 1 + 1 < w10.heap.size:=by omega);(try have : w2.heap.size + 1 + 1 + 1 < w10.heap.size:=by omega);(try have : w3.heap.size < w10.heap.size:=by omega);(try have : w3.heap.size + 1 < w10.heap.size:=by omega);(try have : w3.heap.size + 1 + 1 < w10.heap.size:=by omega);(try have : w3.heap.size + 1 + 1 + 1 < w10.heap.size:=by omega);(try have : w4.heap.size < w10.heap.size:=by omega);(try have : w4.heap.size + 1 < w10.heap.size:=by omega);(try have : w4.heap.size + 1 + 1 < w10.heap.size:=by omega);(try have : w4.heap.size + 1 + 1 + 1 < w10.heap.size:=by omega);obtain ⟨hb10c,hb10f⟩:=bcell hb10) | (go_at_call 12;(with_reducible refine (HSM.out A9 C9 B9 D9 A10 C10 B10 D10 _ (va_below HV9.out (by (repeat' first|(with_reducible first|exact blR _ _|assumption|refine blD ?_|refine blN ?_ _)|((with_reducible first|refine blA ?_ ?_ _|refine blS ?_ ?_ _|refine blT (by assumption) ?_ ?_);focus (go_size;done))))) (va_below HV10.out (by (repeat' first|(with_reducible first|exact blR _ _|assumption|refine blD ?_|refine blN ?_ _)|((with_reducible first|refine blA ?_ ?_ _|refine blS ?_ ?_ _|refine blT (by assumption) ?_ ?_);focus (go_size;done)))))).mono ?_);rintro _ w11 ⟨rfl,hb11⟩;have hb11s:=hb11.size;(try simp only [World.size_alloc] at hb11s);(try have : w.heap.size < w11.heap.size:=by omega);(try have : w.heap.size + 1 < w11.heap.size:=by omega);(try have : w.heap.size + 1 + 1 < w11.heap.size:=by omega);(try have : w.heap.size + 1 + 1 + 1 < w11.heap.size:=by omega);obtain ⟨hb11c,hb11f⟩:=bcell hb11))
 go_ret
 exact ⟨ret_bool (by simp),by (repeat' first|(with_reducible first|exact blR _ _|assumption|refine blD ?_|refine blN ?_ _)|((with_reducible first|refine blA ?_ ?_ _|refine blS ?_ ?_ _|refine blT (by assumption) ?_ ?_);focus (go_size;done)))⟩
theorem walk_numbers (names : List (List UInt8)) (order rows : List (List VD)) (other : List VD) (N O R V : Value) (w : World) (hT : Tabs w) (hn : Nms w N names) (ho : Lls w O order) (hr : Lls w R rows) (hv : Vls (RV w) w V other) :
  Calls Tryz.prog 8 #[.agg #[N,O,R,V]] w fun e w' => e = .returned (.bool true) ∧ Below w.heap.size w w':=by
 have HK:=Lib.hid (fun (W : World) (hW : Below w.heap.size w W) => known18_any W (tabs_below hT hW))
 have L:=fun (p : Int) (d : VD) (e : Int) (h : decAll p names order rows other = (d,e)) => ldec_of p hT hn ho hr hv h
 obtain ⟨NA,NC,eN,_⟩:=hn.is
 obtain ⟨OA,OC,eO,_⟩:=ho.is
 obtain ⟨RA,RC,eR,hR6,_⟩:=hr.is
 obtain ⟨VA0,VC0,eV,hV6⟩:=hv.is
 have hq : ∃ bq : Bool,(bq = true ∧ rows.length = 0 ∧ 0 < other.length ∧ (rowsD rows other).length = 1) ∨ (bq = false ∧ ((rows.length ≠ 0 ∧ (rowsD rows other).length = rows.length) ∨ (rows.length = 0 ∧ other.length = 0 ∧ (rowsD rows other).length = 0))):=by
  unfold rowsD
  by_cases h : rows.length = 0 ∧ 0 < other.length
  ·rw [if_pos h];exact ⟨true,.inl ⟨rfl,h.1,h.2,rfl⟩⟩
  ·rw [if_neg h]
   refine ⟨false,.inr ⟨rfl, ?_⟩⟩
   by_cases h0 : rows.length = 0
   ·exact .inr ⟨h0,by omega,h0⟩
   ·exact .inl ⟨h0,rfl⟩
 obtain ⟨bq,hq⟩:=hq
 have HQ:=Lib.hid hq
 rcases numbers_plain names order rows other with h | ⟨h60,h⟩
 ·exact numbers_form N O R V _ _ _ _ _ _ _ _ _ _ _ _ eN eO eR eV w HK (L 9 _ _ (h 9 (by decide) (by decide))) (L 10 _ _ (h 10 (by decide) (by decide))) (L 8 _ _ (h 8 (by decide) (by decide))) (L 11 _ _ (h 11 (by decide) (by decide)))
 ·rcases h with ⟨h9,h10,h8,h11⟩ | ⟨m,q,h9,h10,fm,fq,hord,h11,h82,h83,hone⟩
  ·exact numbers_odd N O R V _ _ _ _ _ _ _ _ _ _ _ _ eN eO eR eV w HK _ h60 bq HQ hR6 hV6 ((L 9 _ _ h9).lit zV zero_vargsX) ((L 10 _ _ h10).lit zV zero_vargsX) ((L 8 _ _ h8).lit zV zero_vargsX) ((L 11 _ _ h11).lit _ (nd_vargsK h60))
  ·have l9:=(L 9 _ _ h9).lit _ (nm_vargs m.1 m.2.1 m.2.2)
   have l10:=(L 10 _ _ h10).lit _ (nm_vargs q.1 q.2.1 q.2.2)
   have l11:=(L 11 _ _ h11).lit _ (nd_vargsK h60)
   by_cases h1 : (rowsD rows other).length = 1
   ·obtain ⟨e8,e10⟩:=hone h1
    replace h9 : decAll 9 names order rows other = (nmD m.1 m.2.1 m.2.2,0):=h9
    replace e8 : decAll 8 names order rows other = decAll 9 names order rows other:=e8
    replace e10 : decAll 10 names order rows other = decAll 9 names order rows other:=e10
    exact numbers_one N O R V _ _ _ _ _ _ _ _ _ _ _ _ eN eO eR eV w HK hT _ h1 bq HQ hR6 hV6 _ _ _ fm l9 ((L 10 _ _ (e10.trans h9)).lit _ (nm_vargs m.1 m.2.1 m.2.2)) ((L 8 _ _ (e8.trans h9)).lit _ (nm_vargs m.1 m.2.1 m.2.2)) l11
   ·rcases h83 with h80 | h80
    ·have l8:=L 8 (decAll 8 names order rows other).1 0 (Prod.ext rfl h80)
     exact numbers_zero N O R V _ _ _ _ _ _ _ _ _ _ _ _ eN eO eR eV w HK hT _ h60 h1 bq HQ hR6 hV6 _ _ _ _ _ _ _ fm fq hord l9 l10 (l8.lit (fun A C A2 C2 => vargs (decAll 8 names order rows other).1 A C A2 C2) fun _ _ _ _ => rfl) l11
    ·have l8:=L 8 (decAll 8 names order rows other).1 3 (Prod.ext rfl h80)
     exact numbers_over N O R V _ _ _ _ _ _ _ _ _ _ _ _ eN eO eR eV w HK hT _ h60 h1 bq HQ hR6 hV6 _ _ _ _ _ _ _ fm fq hord l9 l10 (l8.lit (fun A C A2 C2 => vargs (decAll 8 names order rows other).1 A C A2 C2) fun _ _ _ _ => rfl) l11
end Go.Proofs.YtkjecoanlppeaaaGreatDoor



namespace Go.Proofs.YtkjecoanlppeaaaGreatDoor
open Go.RowKit
open Go.ChangeShapes Go.WideShapes Go.ChangeAt
open Go.ChangeMaps (open_string shut_string)

set_option maxRecDepth 100000 in
theorem open_table {H : Type} {enc : TypeId × Value → H} {W : World} {base b0 : Nat} {v : Value} {d : DataW H} {p : List MemPlace} {sp : Nat → Bool} {held : Bool}
  (hv : Value.okWide Tryz.prog W .any base 26 v) (h : DataW.Trod enc Tryz.prog W b0 sp held 26 v d p) (hb : Rows.uptoBulk d ≤ 1048576) :
  ∃ (N O R V : Value) (names : List (List UInt8)) (order rows : List (List VD)) (other : List VD),v = .agg #[N,O,R,V] ∧ Nms W N names ∧ Lls W O order ∧ Lls W R rows ∧ Vls (RV W) W V other ∧ (∀ t,t < order.length → SmallL (lg order t)) ∧ (∀ t,t < rows.length → SmallL (lg rows t)) ∧ SmallL other:=by
 obtain ⟨c0,c1,c2,c3,y0,y1,y2,y3,m,rfl,rfl,rfl,h0,h1,h2,h3⟩:=Joins.open_agg4 Tryz.underlying26 (by kernel_rfl) (by kernel_rfl) hv h
 simp only [Rows.uptoBulk,Rows.uptoBulkAll] at hb
 obtain ⟨_,_,names,_,hn⟩:=open_names h0 (by omega)
 obtain ⟨_,_,order,_,ho,hso⟩:=open_lls h1 (by omega)
 obtain ⟨_,_,rows,_,hr,hsr⟩:=open_lls h2 (by omega)
 obtain ⟨_,_,other,_,hv,hs⟩:=open_vls h3 (by omega)
 exact ⟨c0,c1,c2,c3,names,order,rows,other,rfl,hn,ho,hr,hv,hso,hsr,smallL_of (by omega)⟩
@[reducible] def tabZ : Value:=.agg #[.slice none 0 0,.slice none 0 0,.slice none 0 0,.slice none 0 0]
end Go.Proofs.YtkjecoanlppeaaaGreatDoor

