/- The contracts of the functions that the laws reach, part 2: what each returns and what becomes of memory. -/
import Derived.Test.YtbnadlpkbbdgjaaGreatDoorM1
set_option linter.unusedSimpArgs false
set_option linter.unusedVariables false


namespace Go.Proofs.YtbnadlpkbbdgjaaGreatDoor
open Go.RowKit

set_option maxHeartbeats 4000000 in
theorem vbare_any (s : VS) (l : List VD) (nm : List (List UInt8)) (A : Option Addr) (C : Nat) (A2 : Option Addr) (C2 : Nat) (hl : l.length ≤ 1048576) (hn : nm.length ≤ 1048576) (w : World) :
  Calls Tryz.prog 83 #[vagg s (.slice A l.length C) (.slice A2 nm.length C2)] w fun e w' => e = .returned (.bool (bareQ s l.length nm.length (s.kind = 5 ∨ s.kind = 6))) ∧ Below w.heap.size w w':=by
 obtain ⟨z,hz⟩ : ∃ z,z = bareQ s l.length nm.length (s.kind = 5 ∨ s.kind = 6):=⟨_,rfl⟩
 have hz2:=bareQ_iff (s:=s) (ll:=l.length) (nl:=nm.length) (q:=s.kind = 5 ∨ s.kind = 6)
 rw [← hz] at hz2
 rw [← hz]
 obtain ⟨zb,hzb⟩ : ∃ zb,zb = zn s:=⟨_,rfl⟩
 rw [← hzb] at hz2
 obtain ⟨kind,yes,neg,coef,sc,text,day⟩:=s
 unfold vagg
 dsimp only at hz2 ⊢
 have r1 : ∀ W,(binOp .eql 27 (.agg #[.bool neg,.int .u64 (wd coef 1),.int .u64 (wd coef 0),.int .i64 sc]) (.agg #[.bool false,.int .u64 0,.int .u64 0,.int .i64 0])).run Tryz.prog W = .ok (.bool zb) W:=fun W => by rw [veq_dec,hzb];rfl
 have r2 : ∀ W,(binOp .neq 27 (.agg #[.bool neg,.int .u64 (wd coef 1),.int .u64 (wd coef 0),.int .i64 sc]) (.agg #[.bool false,.int .u64 0,.int .u64 0,.int .i64 0])).run Tryz.prog W = .ok (.bool (!zb)) W:=fun W => by rw [vneq_dec,hzb];rfl
 obtain ⟨x1,hx1⟩ : ∃ x1,x1 = wd coef 1:=⟨_,rfl⟩
 obtain ⟨x0,hx0⟩ : ∃ x0,x0 = wd coef 0:=⟨_,rfl⟩
 rw [← hx1,← hx0] at r1 r2
 rw [← hx1,← hx0]
 obtain ⟨ll,hll⟩ : ∃ ll,ll = l.length:=⟨_,rfl⟩
 obtain ⟨nl,hnl⟩ : ∃ nl,nl = nm.length:=⟨_,rfl⟩
 rw [← hll] at hl hz2
 rw [← hnl] at hn hz2
 rw [← hll,← hnl]
 have HZ:=Lib.hid hz2
 clear hz hz2 hzb hx1 hx0 hll hnl
 have hk : kind = 1 ∨ kind = 2 ∨ kind = 3 ∨ kind = 4 ∨ kind = 5 ∨ kind = 6 ∨ kind ≤ 0 ∨ 7 ≤ kind:=by omega
 rcases hk with rfl | rfl | rfl | rfl | rfl | rfl | hk | hk
 ·have tokc : (0 : Int) = 0:=rfl
  clear tokc
  cases zb with
  | false =>
   have hzz : z = false:=by
    cases z with
    | false => rfl
    | true => obtain ⟨g1,g2,g3,g4,g5,g6⟩:=HZ.out.1 rfl;exfalso;rcases g2 with g | g <;> first | omega | exact Bool.noConfusion g
   subst hzz
   clear HZ
   go_enter Tryz.func83,Tryz.ntmps83
   go_wp2_with fail
   all_goals (go_ret;exact ⟨rfl,by exact bel⟩)
  | true =>
   by_cases ht : text = []
   rotate_left
   ·have t1 : text.isEmpty = false:=by simpa using ht
    have hzz : z = false:=by
     cases z with
     | false => rfl
     | true => obtain ⟨g1,g2,g3,g4,g5,g6⟩:=HZ.out.1 rfl;exfalso;rcases g3 with g | g <;> first | omega | exact ht g
    subst hzz
    clear HZ
    go_enter Tryz.func83,Tryz.ntmps83
    go_wp2_with fail
    all_goals (go_ret;exact ⟨rfl,by exact bel⟩)
   subst ht
   by_cases hd : day = 0
   rotate_left
   ·have d1 : (day == 0) = false:=by rw [beq_eq_false_iff_ne];exact hd
    have d2 : (day != 0) = true:=by rw [bne_iff_ne];exact hd
    have hzz : z = false:=by
     cases z with
     | false => rfl
     | true => obtain ⟨g1,g2,g3,g4,g5,g6⟩:=HZ.out.1 rfl;exfalso;rcases g4 with g | g <;> first | omega | exact hd g
    subst hzz
    clear HZ
    go_enter Tryz.func83,Tryz.ntmps83
    go_wp2_with fail
    all_goals (go_ret;exact ⟨rfl,by exact bel⟩)
   subst hd
   by_cases hn0 : nl = 0
   rotate_left
   ·have l1 : ((nl : Int) == 0) = false:=by rw [beq_eq_false_iff_ne];omega
    have l2 : (0 : Int) < (nl : Int):=by omega
    have hzz : z = false:=by
     cases z with
     | false => rfl
     | true => obtain ⟨g1,g2,g3,g4,g5,g6⟩:=HZ.out.1 rfl;exfalso;rcases g6 with g | g <;> omega
    subst hzz
    clear HZ
    go_enter Tryz.func83,Tryz.ntmps83
    go_wp2_with fail
    all_goals (go_ret;exact ⟨rfl,by exact bel⟩)
   subst hn0
   by_cases hl0 : ll = 0
   rotate_left
   ·have l1 : ((ll : Int) == 0) = false:=by rw [beq_eq_false_iff_ne];omega
    have hzz : z = false:=by
     cases z with
     | false => rfl
     | true => obtain ⟨g1,g2,g3,g4,g5,g6⟩:=HZ.out.1 rfl;exfalso;rcases g5 with g | g <;> omega
    subst hzz
    clear HZ
    go_enter Tryz.func83,Tryz.ntmps83
    go_wp2_with fail
    all_goals (go_ret;exact ⟨rfl,by exact bel⟩)
   subst hl0
   have hzz : z = true:=by
    refine HZ.out.2 ⟨?_, ?_, ?_, ?_, ?_, ?_⟩ <;> first | (left;omega) | (right;first | rfl | assumption | omega)
   subst hzz
   clear HZ
   go_enter Tryz.func83,Tryz.ntmps83
   go_wp2_with fail
   all_goals (go_ret;exact ⟨rfl,by exact bel⟩)
 ·have tokc : (0 : Int) = 0:=rfl
  clear tokc
  cases yes with
  | true =>
   have hzz : z = false:=by
    cases z with
    | false => rfl
    | true => obtain ⟨g1,g2,g3,g4,g5,g6⟩:=HZ.out.1 rfl;exfalso;rcases g1 with g | g <;> first | omega | exact Bool.noConfusion g
   subst hzz
   clear HZ
   go_enter Tryz.func83,Tryz.ntmps83
   go_wp2_with fail
   all_goals (go_ret;exact ⟨rfl,by exact bel⟩)
  | false =>
   by_cases ht : text = []
   rotate_left
   ·have t1 : text.isEmpty = false:=by simpa using ht
    have hzz : z = false:=by
     cases z with
     | false => rfl
     | true => obtain ⟨g1,g2,g3,g4,g5,g6⟩:=HZ.out.1 rfl;exfalso;rcases g3 with g | g <;> first | omega | exact ht g
    subst hzz
    clear HZ
    go_enter Tryz.func83,Tryz.ntmps83
    go_wp2_with fail
    all_goals (go_ret;exact ⟨rfl,by exact bel⟩)
   subst ht
   by_cases hd : day = 0
   rotate_left
   ·have d1 : (day == 0) = false:=by rw [beq_eq_false_iff_ne];exact hd
    have d2 : (day != 0) = true:=by rw [bne_iff_ne];exact hd
    have hzz : z = false:=by
     cases z with
     | false => rfl
     | true => obtain ⟨g1,g2,g3,g4,g5,g6⟩:=HZ.out.1 rfl;exfalso;rcases g4 with g | g <;> first | omega | exact hd g
    subst hzz
    clear HZ
    go_enter Tryz.func83,Tryz.ntmps83
    go_wp2_with fail
    all_goals (go_ret;exact ⟨rfl,by exact bel⟩)
   subst hd
   by_cases hn0 : nl = 0
   rotate_left
   ·have l1 : ((nl : Int) == 0) = false:=by rw [beq_eq_false_iff_ne];omega
    have l2 : (0 : Int) < (nl : Int):=by omega
    have hzz : z = false:=by
     cases z with
     | false => rfl
     | true => obtain ⟨g1,g2,g3,g4,g5,g6⟩:=HZ.out.1 rfl;exfalso;rcases g6 with g | g <;> omega
    subst hzz
    clear HZ
    go_enter Tryz.func83,Tryz.ntmps83
    go_wp2_with fail
    all_goals (go_ret;exact ⟨rfl,by exact bel⟩)
   subst hn0
   by_cases hl0 : ll = 0
   rotate_left
   ·have l1 : ((ll : Int) == 0) = false:=by rw [beq_eq_false_iff_ne];omega
    have hzz : z = false:=by
     cases z with
     | false => rfl
     | true => obtain ⟨g1,g2,g3,g4,g5,g6⟩:=HZ.out.1 rfl;exfalso;rcases g5 with g | g <;> omega
    subst hzz
    clear HZ
    go_enter Tryz.func83,Tryz.ntmps83
    go_wp2_with fail
    all_goals (go_ret;exact ⟨rfl,by exact bel⟩)
   subst hl0
   have hzz : z = true:=by
    refine HZ.out.2 ⟨?_, ?_, ?_, ?_, ?_, ?_⟩ <;> first | (left;omega) | (right;first | rfl | assumption | omega)
   subst hzz
   clear HZ
   go_enter Tryz.func83,Tryz.ntmps83
   go_wp2_with fail
   all_goals (go_ret;exact ⟨rfl,by exact bel⟩)
 ·have tokc : (0 : Int) = 0:=rfl
  clear tokc
  cases yes with
  | true =>
   have hzz : z = false:=by
    cases z with
    | false => rfl
    | true => obtain ⟨g1,g2,g3,g4,g5,g6⟩:=HZ.out.1 rfl;exfalso;rcases g1 with g | g <;> first | omega | exact Bool.noConfusion g
   subst hzz
   clear HZ
   go_enter Tryz.func83,Tryz.ntmps83
   go_wp2_with fail
   all_goals (go_ret;exact ⟨rfl,by exact bel⟩)
  | false =>
   cases zb with
   | false =>
    have hzz : z = false:=by
     cases z with
     | false => rfl
     | true => obtain ⟨g1,g2,g3,g4,g5,g6⟩:=HZ.out.1 rfl;exfalso;rcases g2 with g | g <;> first | omega | exact Bool.noConfusion g
    subst hzz
    clear HZ
    go_enter Tryz.func83,Tryz.ntmps83
    go_wp2_with fail
    all_goals (go_ret;exact ⟨rfl,by exact bel⟩)
   | true =>
    by_cases hd : day = 0
    rotate_left
    ·have d1 : (day == 0) = false:=by rw [beq_eq_false_iff_ne];exact hd
     have d2 : (day != 0) = true:=by rw [bne_iff_ne];exact hd
     have hzz : z = false:=by
      cases z with
      | false => rfl
      | true => obtain ⟨g1,g2,g3,g4,g5,g6⟩:=HZ.out.1 rfl;exfalso;rcases g4 with g | g <;> first | omega | exact hd g
     subst hzz
     clear HZ
     go_enter Tryz.func83,Tryz.ntmps83
     go_wp2_with fail
     all_goals (go_ret;exact ⟨rfl,by exact bel⟩)
    subst hd
    by_cases hn0 : nl = 0
    rotate_left
    ·have l1 : ((nl : Int) == 0) = false:=by rw [beq_eq_false_iff_ne];omega
     have l2 : (0 : Int) < (nl : Int):=by omega
     have hzz : z = false:=by
      cases z with
      | false => rfl
      | true => obtain ⟨g1,g2,g3,g4,g5,g6⟩:=HZ.out.1 rfl;exfalso;rcases g6 with g | g <;> omega
     subst hzz
     clear HZ
     go_enter Tryz.func83,Tryz.ntmps83
     go_wp2_with fail
     all_goals (go_ret;exact ⟨rfl,by exact bel⟩)
    subst hn0
    by_cases hl0 : ll = 0
    rotate_left
    ·have l1 : ((ll : Int) == 0) = false:=by rw [beq_eq_false_iff_ne];omega
     have hzz : z = false:=by
      cases z with
      | false => rfl
      | true => obtain ⟨g1,g2,g3,g4,g5,g6⟩:=HZ.out.1 rfl;exfalso;rcases g5 with g | g <;> omega
     subst hzz
     clear HZ
     go_enter Tryz.func83,Tryz.ntmps83
     go_wp2_with fail
     all_goals (go_ret;exact ⟨rfl,by exact bel⟩)
    subst hl0
    have hzz : z = true:=by
     refine HZ.out.2 ⟨?_, ?_, ?_, ?_, ?_, ?_⟩ <;> first | (left;omega) | (right;first | rfl | assumption | omega)
    subst hzz
    clear HZ
    go_enter Tryz.func83,Tryz.ntmps83
    go_wp2_with fail
    all_goals (go_ret;exact ⟨rfl,by exact bel⟩)
 ·have tokc : (0 : Int) = 0:=rfl
  clear tokc
  cases yes with
  | true =>
   have hzz : z = false:=by
    cases z with
    | false => rfl
    | true => obtain ⟨g1,g2,g3,g4,g5,g6⟩:=HZ.out.1 rfl;exfalso;rcases g1 with g | g <;> first | omega | exact Bool.noConfusion g
   subst hzz
   clear HZ
   go_enter Tryz.func83,Tryz.ntmps83
   go_wp2_with fail
   all_goals (go_ret;exact ⟨rfl,by exact bel⟩)
  | false =>
   cases zb with
   | false =>
    have hzz : z = false:=by
     cases z with
     | false => rfl
     | true => obtain ⟨g1,g2,g3,g4,g5,g6⟩:=HZ.out.1 rfl;exfalso;rcases g2 with g | g <;> first | omega | exact Bool.noConfusion g
    subst hzz
    clear HZ
    go_enter Tryz.func83,Tryz.ntmps83
    go_wp2_with fail
    all_goals (go_ret;exact ⟨rfl,by exact bel⟩)
   | true =>
    by_cases ht : text = []
    rotate_left
    ·have t1 : text.isEmpty = false:=by simpa using ht
     have hzz : z = false:=by
      cases z with
      | false => rfl
      | true => obtain ⟨g1,g2,g3,g4,g5,g6⟩:=HZ.out.1 rfl;exfalso;rcases g3 with g | g <;> first | omega | exact ht g
     subst hzz
     clear HZ
     go_enter Tryz.func83,Tryz.ntmps83
     go_wp2_with fail
     all_goals (go_ret;exact ⟨rfl,by exact bel⟩)
    subst ht
    by_cases hn0 : nl = 0
    rotate_left
    ·have l1 : ((nl : Int) == 0) = false:=by rw [beq_eq_false_iff_ne];omega
     have l2 : (0 : Int) < (nl : Int):=by omega
     have hzz : z = false:=by
      cases z with
      | false => rfl
      | true => obtain ⟨g1,g2,g3,g4,g5,g6⟩:=HZ.out.1 rfl;exfalso;rcases g6 with g | g <;> omega
     subst hzz
     clear HZ
     go_enter Tryz.func83,Tryz.ntmps83
     go_wp2_with fail
     all_goals (go_ret;exact ⟨rfl,by exact bel⟩)
    subst hn0
    by_cases hl0 : ll = 0
    rotate_left
    ·have l1 : ((ll : Int) == 0) = false:=by rw [beq_eq_false_iff_ne];omega
     have hzz : z = false:=by
      cases z with
      | false => rfl
      | true => obtain ⟨g1,g2,g3,g4,g5,g6⟩:=HZ.out.1 rfl;exfalso;rcases g5 with g | g <;> omega
     subst hzz
     clear HZ
     go_enter Tryz.func83,Tryz.ntmps83
     go_wp2_with fail
     all_goals (go_ret;exact ⟨rfl,by exact bel⟩)
    subst hl0
    have hzz : z = true:=by
     refine HZ.out.2 ⟨?_, ?_, ?_, ?_, ?_, ?_⟩ <;> first | (left;omega) | (right;first | rfl | assumption | omega)
    subst hzz
    clear HZ
    go_enter Tryz.func83,Tryz.ntmps83
    go_wp2_with fail
    all_goals (go_ret;exact ⟨rfl,by exact bel⟩)
 ·have tokc : (0 : Int) = 0:=rfl
  clear tokc
  cases yes with
  | true =>
   have hzz : z = false:=by
    cases z with
    | false => rfl
    | true => obtain ⟨g1,g2,g3,g4,g5,g6⟩:=HZ.out.1 rfl;exfalso;rcases g1 with g | g <;> first | omega | exact Bool.noConfusion g
   subst hzz
   clear HZ
   go_enter Tryz.func83,Tryz.ntmps83
   go_wp2_with fail
   all_goals (go_ret;exact ⟨rfl,by exact bel⟩)
  | false =>
   cases zb with
   | false =>
    have hzz : z = false:=by
     cases z with
     | false => rfl
     | true => obtain ⟨g1,g2,g3,g4,g5,g6⟩:=HZ.out.1 rfl;exfalso;rcases g2 with g | g <;> first | omega | exact Bool.noConfusion g
    subst hzz
    clear HZ
    go_enter Tryz.func83,Tryz.ntmps83
    go_wp2_with fail
    all_goals (go_ret;exact ⟨rfl,by exact bel⟩)
   | true =>
    by_cases ht : text = []
    rotate_left
    ·have t1 : text.isEmpty = false:=by simpa using ht
     have hzz : z = false:=by
      cases z with
      | false => rfl
      | true => obtain ⟨g1,g2,g3,g4,g5,g6⟩:=HZ.out.1 rfl;exfalso;rcases g3 with g | g <;> first | omega | exact ht g
     subst hzz
     clear HZ
     go_enter Tryz.func83,Tryz.ntmps83
     go_wp2_with fail
     all_goals (go_ret;exact ⟨rfl,by exact bel⟩)
    subst ht
    by_cases hd : day = 0
    rotate_left
    ·have d1 : (day == 0) = false:=by rw [beq_eq_false_iff_ne];exact hd
     have d2 : (day != 0) = true:=by rw [bne_iff_ne];exact hd
     have hzz : z = false:=by
      cases z with
      | false => rfl
      | true => obtain ⟨g1,g2,g3,g4,g5,g6⟩:=HZ.out.1 rfl;exfalso;rcases g4 with g | g <;> first | omega | exact hd g
     subst hzz
     clear HZ
     go_enter Tryz.func83,Tryz.ntmps83
     go_wp2_with fail
     all_goals (go_ret;exact ⟨rfl,by exact bel⟩)
    subst hd
    by_cases hn0 : nl = 0
    rotate_left
    ·have l1 : ((nl : Int) == 0) = false:=by rw [beq_eq_false_iff_ne];omega
     have l2 : (0 : Int) < (nl : Int):=by omega
     have hzz : z = false:=by
      cases z with
      | false => rfl
      | true => obtain ⟨g1,g2,g3,g4,g5,g6⟩:=HZ.out.1 rfl;exfalso;rcases g6 with g | g <;> omega
     subst hzz
     clear HZ
     go_enter Tryz.func83,Tryz.ntmps83
     go_wp2_with fail
     all_goals (go_ret;exact ⟨rfl,by exact bel⟩)
    subst hn0
    rcases Nat.eq_zero_or_pos ll with hl0 | hl0
    ·subst hl0
     have hzz : z = true:=by
      refine HZ.out.2 ⟨?_, ?_, ?_, ?_, ?_, ?_⟩ <;> first | (left;omega) | (right;first | rfl | assumption | omega)
     subst hzz
     clear HZ
     go_enter Tryz.func83,Tryz.ntmps83
     go_wp2_with fail
     all_goals (go_ret;exact ⟨rfl,by exact bel⟩)
    ·have l1 : ((ll : Int) == 0) = false:=by rw [beq_eq_false_iff_ne];omega
     have hzz : z = true:=by
      refine HZ.out.2 ⟨?_, ?_, ?_, ?_, ?_, ?_⟩ <;> first | (left;omega) | (right;first | rfl | assumption | omega)
     subst hzz
     clear HZ
     go_enter Tryz.func83,Tryz.ntmps83
     go_wp2_with fail
     all_goals (go_ret;exact ⟨rfl,by exact bel⟩)
 ·have tokc : (0 : Int) = 0:=rfl
  clear tokc
  cases yes with
  | true =>
   have hzz : z = false:=by
    cases z with
    | false => rfl
    | true => obtain ⟨g1,g2,g3,g4,g5,g6⟩:=HZ.out.1 rfl;exfalso;rcases g1 with g | g <;> first | omega | exact Bool.noConfusion g
   subst hzz
   clear HZ
   go_enter Tryz.func83,Tryz.ntmps83
   go_wp2_with fail
   all_goals (go_ret;exact ⟨rfl,by exact bel⟩)
  | false =>
   cases zb with
   | false =>
    have hzz : z = false:=by
     cases z with
     | false => rfl
     | true => obtain ⟨g1,g2,g3,g4,g5,g6⟩:=HZ.out.1 rfl;exfalso;rcases g2 with g | g <;> first | omega | exact Bool.noConfusion g
    subst hzz
    clear HZ
    go_enter Tryz.func83,Tryz.ntmps83
    go_wp2_with fail
    all_goals (go_ret;exact ⟨rfl,by exact bel⟩)
   | true =>
    by_cases ht : text = []
    rotate_left
    ·have t1 : text.isEmpty = false:=by simpa using ht
     have hzz : z = false:=by
      cases z with
      | false => rfl
      | true => obtain ⟨g1,g2,g3,g4,g5,g6⟩:=HZ.out.1 rfl;exfalso;rcases g3 with g | g <;> first | omega | exact ht g
     subst hzz
     clear HZ
     go_enter Tryz.func83,Tryz.ntmps83
     go_wp2_with fail
     all_goals (go_ret;exact ⟨rfl,by exact bel⟩)
    subst ht
    by_cases hd : day = 0
    rotate_left
    ·have d1 : (day == 0) = false:=by rw [beq_eq_false_iff_ne];exact hd
     have d2 : (day != 0) = true:=by rw [bne_iff_ne];exact hd
     have hzz : z = false:=by
      cases z with
      | false => rfl
      | true => obtain ⟨g1,g2,g3,g4,g5,g6⟩:=HZ.out.1 rfl;exfalso;rcases g4 with g | g <;> first | omega | exact hd g
     subst hzz
     clear HZ
     go_enter Tryz.func83,Tryz.ntmps83
     go_wp2_with fail
     all_goals (go_ret;exact ⟨rfl,by exact bel⟩)
    subst hd
    rcases Nat.eq_zero_or_pos ll with hl0 | hl0
    ·subst hl0
     have hzz : z = true:=by
      refine HZ.out.2 ⟨?_, ?_, ?_, ?_, ?_, ?_⟩ <;> first | (left;omega) | (right;first | rfl | assumption | omega)
     subst hzz
     clear HZ
     go_enter Tryz.func83,Tryz.ntmps83
     go_wp2_with fail
     all_goals (go_ret;exact ⟨rfl,by exact bel⟩)
    ·have l1 : ((ll : Int) == 0) = false:=by rw [beq_eq_false_iff_ne];omega
     have hzz : z = true:=by
      refine HZ.out.2 ⟨?_, ?_, ?_, ?_, ?_, ?_⟩ <;> first | (left;omega) | (right;first | rfl | assumption | omega)
     subst hzz
     clear HZ
     go_enter Tryz.func83,Tryz.ntmps83
     go_wp2_with fail
     all_goals (go_ret;exact ⟨rfl,by exact bel⟩)
 ·have tokc : (0 : Int) = 0:=rfl
  clear tokc
  have e1 : (kind == 1) = false:=by rw [beq_eq_false_iff_ne];omega
  have f1 : (kind != 1) = true:=by rw [bne_iff_ne];omega
  have e2 : (kind == 2) = false:=by rw [beq_eq_false_iff_ne];omega
  have f2 : (kind != 2) = true:=by rw [bne_iff_ne];omega
  have e3 : (kind == 3) = false:=by rw [beq_eq_false_iff_ne];omega
  have f3 : (kind != 3) = true:=by rw [bne_iff_ne];omega
  have e4 : (kind == 4) = false:=by rw [beq_eq_false_iff_ne];omega
  have f4 : (kind != 4) = true:=by rw [bne_iff_ne];omega
  have e5 : (kind == 5) = false:=by rw [beq_eq_false_iff_ne];omega
  have f5 : (kind != 5) = true:=by rw [bne_iff_ne];omega
  have e6 : (kind == 6) = false:=by rw [beq_eq_false_iff_ne];omega
  have f6 : (kind != 6) = true:=by rw [bne_iff_ne];omega
  have k5 : decide (5 ≤ kind) = false:=decide_eq_false (by omega)
  cases yes with
  | true =>
   have hzz : z = false:=by
    cases z with
    | false => rfl
    | true => obtain ⟨g1,g2,g3,g4,g5,g6⟩:=HZ.out.1 rfl;exfalso;rcases g1 with g | g <;> first | omega | exact Bool.noConfusion g
   subst hzz
   clear HZ
   go_enter Tryz.func83,Tryz.ntmps83
   go_wp2_with fail
   all_goals (go_ret;exact ⟨rfl,by exact bel⟩)
  | false =>
   cases zb with
   | false =>
    have hzz : z = false:=by
     cases z with
     | false => rfl
     | true => obtain ⟨g1,g2,g3,g4,g5,g6⟩:=HZ.out.1 rfl;exfalso;rcases g2 with g | g <;> first | omega | exact Bool.noConfusion g
    subst hzz
    clear HZ
    go_enter Tryz.func83,Tryz.ntmps83
    go_wp2_with fail
    all_goals (go_ret;exact ⟨rfl,by exact bel⟩)
   | true =>
    by_cases ht : text = []
    rotate_left
    ·have t1 : text.isEmpty = false:=by simpa using ht
     have hzz : z = false:=by
      cases z with
      | false => rfl
      | true => obtain ⟨g1,g2,g3,g4,g5,g6⟩:=HZ.out.1 rfl;exfalso;rcases g3 with g | g <;> first | omega | exact ht g
     subst hzz
     clear HZ
     go_enter Tryz.func83,Tryz.ntmps83
     go_wp2_with fail
     all_goals (go_ret;exact ⟨rfl,by exact bel⟩)
    subst ht
    by_cases hd : day = 0
    rotate_left
    ·have d1 : (day == 0) = false:=by rw [beq_eq_false_iff_ne];exact hd
     have d2 : (day != 0) = true:=by rw [bne_iff_ne];exact hd
     have hzz : z = false:=by
      cases z with
      | false => rfl
      | true => obtain ⟨g1,g2,g3,g4,g5,g6⟩:=HZ.out.1 rfl;exfalso;rcases g4 with g | g <;> first | omega | exact hd g
     subst hzz
     clear HZ
     go_enter Tryz.func83,Tryz.ntmps83
     go_wp2_with fail
     all_goals (go_ret;exact ⟨rfl,by exact bel⟩)
    subst hd
    by_cases hn0 : nl = 0
    rotate_left
    ·have l1 : ((nl : Int) == 0) = false:=by rw [beq_eq_false_iff_ne];omega
     have l2 : (0 : Int) < (nl : Int):=by omega
     have hzz : z = false:=by
      cases z with
      | false => rfl
      | true => obtain ⟨g1,g2,g3,g4,g5,g6⟩:=HZ.out.1 rfl;exfalso;rcases g6 with g | g <;> omega
     subst hzz
     clear HZ
     go_enter Tryz.func83,Tryz.ntmps83
     go_wp2_with fail
     all_goals (go_ret;exact ⟨rfl,by exact bel⟩)
    subst hn0
    by_cases hl0 : ll = 0
    rotate_left
    ·have l1 : ((ll : Int) == 0) = false:=by rw [beq_eq_false_iff_ne];omega
     have hzz : z = false:=by
      cases z with
      | false => rfl
      | true => obtain ⟨g1,g2,g3,g4,g5,g6⟩:=HZ.out.1 rfl;exfalso;rcases g5 with g | g <;> omega
     subst hzz
     clear HZ
     go_enter Tryz.func83,Tryz.ntmps83
     go_wp2_with fail
     all_goals (go_ret;exact ⟨rfl,by exact bel⟩)
    subst hl0
    have hzz : z = true:=by
     refine HZ.out.2 ⟨?_, ?_, ?_, ?_, ?_, ?_⟩ <;> first | (left;omega) | (right;first | rfl | assumption | omega)
    subst hzz
    clear HZ
    go_enter Tryz.func83,Tryz.ntmps83
    go_wp2_with fail
    all_goals (go_ret;exact ⟨rfl,by exact bel⟩)
 ·have tokc : (0 : Int) = 0:=rfl
  clear tokc
  have e1 : (kind == 1) = false:=by rw [beq_eq_false_iff_ne];omega
  have f1 : (kind != 1) = true:=by rw [bne_iff_ne];omega
  have e2 : (kind == 2) = false:=by rw [beq_eq_false_iff_ne];omega
  have f2 : (kind != 2) = true:=by rw [bne_iff_ne];omega
  have e3 : (kind == 3) = false:=by rw [beq_eq_false_iff_ne];omega
  have f3 : (kind != 3) = true:=by rw [bne_iff_ne];omega
  have e4 : (kind == 4) = false:=by rw [beq_eq_false_iff_ne];omega
  have f4 : (kind != 4) = true:=by rw [bne_iff_ne];omega
  have e5 : (kind == 5) = false:=by rw [beq_eq_false_iff_ne];omega
  have f5 : (kind != 5) = true:=by rw [bne_iff_ne];omega
  have e6 : (kind == 6) = false:=by rw [beq_eq_false_iff_ne];omega
  have f6 : (kind != 6) = true:=by rw [bne_iff_ne];omega
  have k5 : decide (5 ≤ kind) = true:=decide_eq_true (by omega)
  cases yes with
  | true =>
   have hzz : z = false:=by
    cases z with
    | false => rfl
    | true => obtain ⟨g1,g2,g3,g4,g5,g6⟩:=HZ.out.1 rfl;exfalso;rcases g1 with g | g <;> first | omega | exact Bool.noConfusion g
   subst hzz
   clear HZ
   go_enter Tryz.func83,Tryz.ntmps83
   go_wp2_with fail
   all_goals (go_ret;exact ⟨rfl,by exact bel⟩)
  | false =>
   cases zb with
   | false =>
    have hzz : z = false:=by
     cases z with
     | false => rfl
     | true => obtain ⟨g1,g2,g3,g4,g5,g6⟩:=HZ.out.1 rfl;exfalso;rcases g2 with g | g <;> first | omega | exact Bool.noConfusion g
    subst hzz
    clear HZ
    go_enter Tryz.func83,Tryz.ntmps83
    go_wp2_with fail
    all_goals (go_ret;exact ⟨rfl,by exact bel⟩)
   | true =>
    by_cases ht : text = []
    rotate_left
    ·have t1 : text.isEmpty = false:=by simpa using ht
     have hzz : z = false:=by
      cases z with
      | false => rfl
      | true => obtain ⟨g1,g2,g3,g4,g5,g6⟩:=HZ.out.1 rfl;exfalso;rcases g3 with g | g <;> first | omega | exact ht g
     subst hzz
     clear HZ
     go_enter Tryz.func83,Tryz.ntmps83
     go_wp2_with fail
     all_goals (go_ret;exact ⟨rfl,by exact bel⟩)
    subst ht
    by_cases hd : day = 0
    rotate_left
    ·have d1 : (day == 0) = false:=by rw [beq_eq_false_iff_ne];exact hd
     have d2 : (day != 0) = true:=by rw [bne_iff_ne];exact hd
     have hzz : z = false:=by
      cases z with
      | false => rfl
      | true => obtain ⟨g1,g2,g3,g4,g5,g6⟩:=HZ.out.1 rfl;exfalso;rcases g4 with g | g <;> first | omega | exact hd g
     subst hzz
     clear HZ
     go_enter Tryz.func83,Tryz.ntmps83
     go_wp2_with fail
     all_goals (go_ret;exact ⟨rfl,by exact bel⟩)
    subst hd
    by_cases hn0 : nl = 0
    rotate_left
    ·have l1 : ((nl : Int) == 0) = false:=by rw [beq_eq_false_iff_ne];omega
     have l2 : (0 : Int) < (nl : Int):=by omega
     have hzz : z = false:=by
      cases z with
      | false => rfl
      | true => obtain ⟨g1,g2,g3,g4,g5,g6⟩:=HZ.out.1 rfl;exfalso;rcases g6 with g | g <;> omega
     subst hzz
     clear HZ
     go_enter Tryz.func83,Tryz.ntmps83
     go_wp2_with fail
     all_goals (go_ret;exact ⟨rfl,by exact bel⟩)
    subst hn0
    by_cases hl0 : ll = 0
    rotate_left
    ·have l1 : ((ll : Int) == 0) = false:=by rw [beq_eq_false_iff_ne];omega
     have hzz : z = false:=by
      cases z with
      | false => rfl
      | true => obtain ⟨g1,g2,g3,g4,g5,g6⟩:=HZ.out.1 rfl;exfalso;rcases g5 with g | g <;> omega
     subst hzz
     clear HZ
     go_enter Tryz.func83,Tryz.ntmps83
     go_wp2_with fail
     all_goals (go_ret;exact ⟨rfl,by exact bel⟩)
    subst hl0
    have hzz : z = true:=by
     refine HZ.out.2 ⟨?_, ?_, ?_, ?_, ?_, ?_⟩ <;> first | (left;omega) | (right;first | rfl | assumption | omega)
    subst hzz
    clear HZ
    go_enter Tryz.func83,Tryz.ntmps83
    go_wp2_with fail
    all_goals (go_ret;exact ⟨rfl,by exact bel⟩)
end Go.Proofs.YtbnadlpkbbdgjaaGreatDoor

