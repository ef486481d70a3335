/- What this law reaches beyond the common contracts, part 1. -/
import Derived.BigQuiet
import Derived.OwnWalk
import Derived.Lib.SlicesS
import Derived.BigRegion
import Derived.Deep.DeepCutAuto
import Derived.WalkKit
import Derived.Lib.TrimUEq
import Derived.Lib.ValidU
import Derived.Shelf.GgClosure.StringsIndexFunc
import Init.Omega
import Derived.Deep.OwnRows
import Derived.RegionTactic
import Derived.ChangeAlike
import Derived.Test.YtnhmplfonkjfoaaDoorM1
set_option linter.unusedSimpArgs false
set_option linter.unusedVariables false


namespace Go.Proofs.YtnhmplfonkjfoaaDoor
open Go.RowKit

def tk (op a : Int) : Int × Int × Int × Int × Bool :=
 if a < 0 ∨ (op = 36 ∧ a < 1) ∨ (op = 25 ∧ 8 < a) then (0,0,0,0,false)
 else if ¬ (op = 25 ∨ op = 26 ∨ op = 27 ∨ op = 36) ∧ op ≠ 101 ∧ op ≠ 102 ∧ a ≠ 0 then (0,0,0,0,false)
 else if op = 25 ∨ op = 26 ∨ op = 27 ∨ op = 36 then (a,1,0,0,true)
 else if (1 ≤ op ∧ op ≤ 7) ∨ op = 29 then (0,1,0,0,true)
 else if op = 8 ∨ op = 24 ∨ op = 28 ∨ op = 37 then (1,1,0,0,true)
 else if 9 ≤ op ∧ op ≤ 20 then (2,1,0,0,true)
 else if op = 22 then (3,1,0,0,true)
 else if 30 ≤ op ∧ op ≤ 34 then (1,1,0,1,true)
 else if op = 35 then (2,1,0,1,true)
 else if op = 101 then (0,0,0,0,true)
 else if op = 102 then (1,0,0,0,true)
 else if op = 103 then (1,0,1,0,true)
 else if op = 104 then (0,0,-1,1,true)
 else (0,0,0,0,false)
set_option maxHeartbeats 400000 in
theorem rcounted_any (op : Int) (w : World) : Calls Tryd.prog 45 #[.int .i64 op] w fun e w'=>e = .returned (.bool (cnt op)) ∧ w = w':=by
 go_enter Tryd.func45,Tryd.ntmps45
 go_wp2
 all_goals go_ret
 all_goals refine ⟨ret_bool ?_,rfl⟩
 all_goals simp [cnt]
 all_goals (first | done | omega | (simp_all;done) | (simp_all;omega) | (rw [Bool.eq_iff_iff];simp_all;done) | (rw [Bool.eq_iff_iff];simp_all;omega))
set_option maxHeartbeats 4000000 in
theorem takes_any (op a : Int) (tx : ByteArray) (ng : Bool) (hi lo sc dy : Int) (w : World) : Calls Tryd.prog 23 #[.agg #[.int .i64 op,.int .i64 a,.string tx,.bool ng,.int .u64 hi,.int .u64 lo,.int .i64 sc,.int .i64 dy]] w fun e w'=>e = .returned (.tuple #[.int .i64 (tk op a).1,.int .i64 (tk op a).2.1,.int .i64 (tk op a).2.2.1,.int .i64 (tk op a).2.2.2.1,.bool (tk op a).2.2.2.2]) ∧ Below w.heap.size w w':=by
 rcases Int.lt_or_le a 0 with h0 | h0
 ·have tok:=trivial
  have e : tk op a = (0,0,0,0,false):=by
   unfold tk
   repeat (first | rw [if_pos (by omega)] | rw [if_neg (by omega)])
  have hc : cnt op = cnt op:=by unfold cnt;first | rfl | (rw [decide_eq_true_eq];omega) | (rw [decide_eq_false_iff_not];omega)
  rw [e]
  have HK:=Lib.hid (fun W=>rcounted_any op W)
  rw [hc] at HK
  clear e hc
  go_enter Tryd.func23,Tryd.ntmps23
  go_wp2_with (go_at_call 45;with_reducible refine (HK.out _).mono ?_;rintro _ _ ⟨rfl,rfl⟩)
  all_goals refine bodyPost_ret (by simp [results,Tryd.results23,go_sem, *];try rfl) rfl ?_
  all_goals first | exact ⟨rfl,by (repeat' first|(with_reducible first|exact blR _ _|assumption|refine blD ?_|refine blN ?_ _)|((with_reducible first|refine blA ?_ ?_ _|refine blS ?_ ?_ _|refine blT (by assumption) ?_ ?_);focus (go_size;done)))⟩ | (refine ⟨?_,by (repeat' first|(with_reducible first|exact blR _ _|assumption|refine blD ?_|refine blN ?_ _)|((with_reducible first|refine blA ?_ ?_ _|refine blS ?_ ?_ _|refine blT (by assumption) ?_ ?_);focus (go_size;done)))⟩;simp_all)
 by_cases c1 : op = 25
 ·subst c1
  by_cases c2 : 8 < a
  ·have tok:=trivial
   have e : tk 25 a = (0,0,0,0,false):=by
    unfold tk
    repeat (first | rw [if_pos (by omega)] | rw [if_neg (by omega)])
   have hc : cnt 25 = true:=by unfold cnt;first | rfl | (rw [decide_eq_true_eq];omega) | (rw [decide_eq_false_iff_not];omega)
   rw [e]
   have HK:=Lib.hid (fun W=>rcounted_any 25 W)
   rw [hc] at HK
   clear e hc
   go_enter Tryd.func23,Tryd.ntmps23
   go_wp2_with (go_at_call 45;with_reducible refine (HK.out _).mono ?_;rintro _ _ ⟨rfl,rfl⟩)
   all_goals refine bodyPost_ret (by simp [results,Tryd.results23,go_sem, *];try rfl) rfl ?_
   all_goals first | exact ⟨rfl,by (repeat' first|(with_reducible first|exact blR _ _|assumption|refine blD ?_|refine blN ?_ _)|((with_reducible first|refine blA ?_ ?_ _|refine blS ?_ ?_ _|refine blT (by assumption) ?_ ?_);focus (go_size;done)))⟩ | (refine ⟨?_,by (repeat' first|(with_reducible first|exact blR _ _|assumption|refine blD ?_|refine blN ?_ _)|((with_reducible first|refine blA ?_ ?_ _|refine blS ?_ ?_ _|refine blT (by assumption) ?_ ?_);focus (go_size;done)))⟩;simp_all)
  ·have c3 : a ≤ 8:=by omega
   have e : tk 25 a = (a,1,0,0,true):=by
    unfold tk
    repeat (first | rw [if_pos (by omega)] | rw [if_neg (by omega)])
   have hc : cnt 25 = true:=by unfold cnt;first | rfl | (rw [decide_eq_true_eq];omega) | (rw [decide_eq_false_iff_not];omega)
   rw [e]
   have HK:=Lib.hid (fun W=>rcounted_any 25 W)
   rw [hc] at HK
   clear e hc
   go_enter Tryd.func23,Tryd.ntmps23
   go_wp2_with (go_at_call 45;with_reducible refine (HK.out _).mono ?_;rintro _ _ ⟨rfl,rfl⟩)
   all_goals refine bodyPost_ret (by simp [results,Tryd.results23,go_sem, *];try rfl) rfl ?_
   all_goals first | exact ⟨rfl,by (repeat' first|(with_reducible first|exact blR _ _|assumption|refine blD ?_|refine blN ?_ _)|((with_reducible first|refine blA ?_ ?_ _|refine blS ?_ ?_ _|refine blT (by assumption) ?_ ?_);focus (go_size;done)))⟩ | (refine ⟨?_,by (repeat' first|(with_reducible first|exact blR _ _|assumption|refine blD ?_|refine blN ?_ _)|((with_reducible first|refine blA ?_ ?_ _|refine blS ?_ ?_ _|refine blT (by assumption) ?_ ?_);focus (go_size;done)))⟩;simp_all)
 by_cases c2 : op = 36
 ·subst c2
  by_cases c2 : a < 1
  ·have tok:=trivial
   have e : tk 36 a = (0,0,0,0,false):=by
    unfold tk
    repeat (first | rw [if_pos (by omega)] | rw [if_neg (by omega)])
   have hc : cnt 36 = true:=by unfold cnt;first | rfl | (rw [decide_eq_true_eq];omega) | (rw [decide_eq_false_iff_not];omega)
   rw [e]
   have HK:=Lib.hid (fun W=>rcounted_any 36 W)
   rw [hc] at HK
   clear e hc
   go_enter Tryd.func23,Tryd.ntmps23
   go_wp2_with (go_at_call 45;with_reducible refine (HK.out _).mono ?_;rintro _ _ ⟨rfl,rfl⟩)
   all_goals refine bodyPost_ret (by simp [results,Tryd.results23,go_sem, *];try rfl) rfl ?_
   all_goals first | exact ⟨rfl,by (repeat' first|(with_reducible first|exact blR _ _|assumption|refine blD ?_|refine blN ?_ _)|((with_reducible first|refine blA ?_ ?_ _|refine blS ?_ ?_ _|refine blT (by assumption) ?_ ?_);focus (go_size;done)))⟩ | (refine ⟨?_,by (repeat' first|(with_reducible first|exact blR _ _|assumption|refine blD ?_|refine blN ?_ _)|((with_reducible first|refine blA ?_ ?_ _|refine blS ?_ ?_ _|refine blT (by assumption) ?_ ?_);focus (go_size;done)))⟩;simp_all)
  ·have c3 : 1 ≤ a:=by omega
   have e : tk 36 a = (a,1,0,0,true):=by
    unfold tk
    repeat (first | rw [if_pos (by omega)] | rw [if_neg (by omega)])
   have hc : cnt 36 = true:=by unfold cnt;first | rfl | (rw [decide_eq_true_eq];omega) | (rw [decide_eq_false_iff_not];omega)
   rw [e]
   have HK:=Lib.hid (fun W=>rcounted_any 36 W)
   rw [hc] at HK
   clear e hc
   go_enter Tryd.func23,Tryd.ntmps23
   go_wp2_with (go_at_call 45;with_reducible refine (HK.out _).mono ?_;rintro _ _ ⟨rfl,rfl⟩)
   all_goals refine bodyPost_ret (by simp [results,Tryd.results23,go_sem, *];try rfl) rfl ?_
   all_goals first | exact ⟨rfl,by (repeat' first|(with_reducible first|exact blR _ _|assumption|refine blD ?_|refine blN ?_ _)|((with_reducible first|refine blA ?_ ?_ _|refine blS ?_ ?_ _|refine blT (by assumption) ?_ ?_);focus (go_size;done)))⟩ | (refine ⟨?_,by (repeat' first|(with_reducible first|exact blR _ _|assumption|refine blD ?_|refine blN ?_ _)|((with_reducible first|refine blA ?_ ?_ _|refine blS ?_ ?_ _|refine blT (by assumption) ?_ ?_);focus (go_size;done)))⟩;simp_all)
 by_cases c3 : op = 26
 ·subst c3
  have e : tk 26 a = (a,1,0,0,true):=by
   unfold tk
   repeat (first | rw [if_pos (by omega)] | rw [if_neg (by omega)])
  have hc : cnt 26 = true:=by unfold cnt;first | rfl | (rw [decide_eq_true_eq];omega) | (rw [decide_eq_false_iff_not];omega)
  rw [e]
  have HK:=Lib.hid (fun W=>rcounted_any 26 W)
  rw [hc] at HK
  clear e hc
  go_enter Tryd.func23,Tryd.ntmps23
  go_wp2_with (go_at_call 45;with_reducible refine (HK.out _).mono ?_;rintro _ _ ⟨rfl,rfl⟩)
  all_goals refine bodyPost_ret (by simp [results,Tryd.results23,go_sem, *];try rfl) rfl ?_
  all_goals first | exact ⟨rfl,by (repeat' first|(with_reducible first|exact blR _ _|assumption|refine blD ?_|refine blN ?_ _)|((with_reducible first|refine blA ?_ ?_ _|refine blS ?_ ?_ _|refine blT (by assumption) ?_ ?_);focus (go_size;done)))⟩ | (refine ⟨?_,by (repeat' first|(with_reducible first|exact blR _ _|assumption|refine blD ?_|refine blN ?_ _)|((with_reducible first|refine blA ?_ ?_ _|refine blS ?_ ?_ _|refine blT (by assumption) ?_ ?_);focus (go_size;done)))⟩;simp_all)
 by_cases c4 : op = 27
 ·subst c4
  have e : tk 27 a = (a,1,0,0,true):=by
   unfold tk
   repeat (first | rw [if_pos (by omega)] | rw [if_neg (by omega)])
  have hc : cnt 27 = true:=by unfold cnt;first | rfl | (rw [decide_eq_true_eq];omega) | (rw [decide_eq_false_iff_not];omega)
  rw [e]
  have HK:=Lib.hid (fun W=>rcounted_any 27 W)
  rw [hc] at HK
  clear e hc
  go_enter Tryd.func23,Tryd.ntmps23
  go_wp2_with (go_at_call 45;with_reducible refine (HK.out _).mono ?_;rintro _ _ ⟨rfl,rfl⟩)
  all_goals refine bodyPost_ret (by simp [results,Tryd.results23,go_sem, *];try rfl) rfl ?_
  all_goals first | exact ⟨rfl,by (repeat' first|(with_reducible first|exact blR _ _|assumption|refine blD ?_|refine blN ?_ _)|((with_reducible first|refine blA ?_ ?_ _|refine blS ?_ ?_ _|refine blT (by assumption) ?_ ?_);focus (go_size;done)))⟩ | (refine ⟨?_,by (repeat' first|(with_reducible first|exact blR _ _|assumption|refine blD ?_|refine blN ?_ _)|((with_reducible first|refine blA ?_ ?_ _|refine blS ?_ ?_ _|refine blT (by assumption) ?_ ?_);focus (go_size;done)))⟩;simp_all)
 by_cases c5 : op = 101
 ·subst c5
  have e : tk 101 a = (0,0,0,0,true):=by
   unfold tk
   repeat (first | rw [if_pos (by omega)] | rw [if_neg (by omega)])
  have hc : cnt 101 = false:=by unfold cnt;first | rfl | (rw [decide_eq_true_eq];omega) | (rw [decide_eq_false_iff_not];omega)
  rw [e]
  have HK:=Lib.hid (fun W=>rcounted_any 101 W)
  rw [hc] at HK
  clear e hc
  go_enter Tryd.func23,Tryd.ntmps23
  go_wp2_with (go_at_call 45;with_reducible refine (HK.out _).mono ?_;rintro _ _ ⟨rfl,rfl⟩)
  all_goals refine bodyPost_ret (by simp [results,Tryd.results23,go_sem, *];try rfl) rfl ?_
  all_goals first | exact ⟨rfl,by (repeat' first|(with_reducible first|exact blR _ _|assumption|refine blD ?_|refine blN ?_ _)|((with_reducible first|refine blA ?_ ?_ _|refine blS ?_ ?_ _|refine blT (by assumption) ?_ ?_);focus (go_size;done)))⟩ | (refine ⟨?_,by (repeat' first|(with_reducible first|exact blR _ _|assumption|refine blD ?_|refine blN ?_ _)|((with_reducible first|refine blA ?_ ?_ _|refine blS ?_ ?_ _|refine blT (by assumption) ?_ ?_);focus (go_size;done)))⟩;simp_all)
 by_cases c6 : op = 102
 ·subst c6
  have e : tk 102 a = (1,0,0,0,true):=by
   unfold tk
   repeat (first | rw [if_pos (by omega)] | rw [if_neg (by omega)])
  have hc : cnt 102 = false:=by unfold cnt;first | rfl | (rw [decide_eq_true_eq];omega) | (rw [decide_eq_false_iff_not];omega)
  rw [e]
  have HK:=Lib.hid (fun W=>rcounted_any 102 W)
  rw [hc] at HK
  clear e hc
  go_enter Tryd.func23,Tryd.ntmps23
  go_wp2_with (go_at_call 45;with_reducible refine (HK.out _).mono ?_;rintro _ _ ⟨rfl,rfl⟩)
  all_goals refine bodyPost_ret (by simp [results,Tryd.results23,go_sem, *];try rfl) rfl ?_
  all_goals first | exact ⟨rfl,by (repeat' first|(with_reducible first|exact blR _ _|assumption|refine blD ?_|refine blN ?_ _)|((with_reducible first|refine blA ?_ ?_ _|refine blS ?_ ?_ _|refine blT (by assumption) ?_ ?_);focus (go_size;done)))⟩ | (refine ⟨?_,by (repeat' first|(with_reducible first|exact blR _ _|assumption|refine blD ?_|refine blN ?_ _)|((with_reducible first|refine blA ?_ ?_ _|refine blS ?_ ?_ _|refine blT (by assumption) ?_ ?_);focus (go_size;done)))⟩;simp_all)
 by_cases c7 : a ≠ 0
 ·have tok:=trivial
  have q25 : (op == 25) = false:=by rw [beq_eq_false_iff_ne];omega
  have r25 : (op != 25) = true:=by rw [bne_iff_ne];omega
  have q36 : (op == 36) = false:=by rw [beq_eq_false_iff_ne];omega
  have r36 : (op != 36) = true:=by rw [bne_iff_ne];omega
  have q101 : (op == 101) = false:=by rw [beq_eq_false_iff_ne];omega
  have r101 : (op != 101) = true:=by rw [bne_iff_ne];omega
  have q102 : (op == 102) = false:=by rw [beq_eq_false_iff_ne];omega
  have r102 : (op != 102) = true:=by rw [bne_iff_ne];omega
  have ra : (a != 0) = true:=by rw [bne_iff_ne];omega
  have e : tk op a = (0,0,0,0,false):=by
   unfold tk
   repeat (first | rw [if_pos (by omega)] | rw [if_neg (by omega)])
  have hc : cnt op = false:=by unfold cnt;first | rfl | (rw [decide_eq_true_eq];omega) | (rw [decide_eq_false_iff_not];omega)
  rw [e]
  have HK:=Lib.hid (fun W=>rcounted_any op W)
  rw [hc] at HK
  clear e hc
  go_enter Tryd.func23,Tryd.ntmps23
  go_wp2_with (go_at_call 45;with_reducible refine (HK.out _).mono ?_;rintro _ _ ⟨rfl,rfl⟩)
  all_goals refine bodyPost_ret (by simp [results,Tryd.results23,go_sem, *];try rfl) rfl ?_
  all_goals first | exact ⟨rfl,by (repeat' first|(with_reducible first|exact blR _ _|assumption|refine blD ?_|refine blN ?_ _)|((with_reducible first|refine blA ?_ ?_ _|refine blS ?_ ?_ _|refine blT (by assumption) ?_ ?_);focus (go_size;done)))⟩ | (refine ⟨?_,by (repeat' first|(with_reducible first|exact blR _ _|assumption|refine blD ?_|refine blN ?_ _)|((with_reducible first|refine blA ?_ ?_ _|refine blS ?_ ?_ _|refine blT (by assumption) ?_ ?_);focus (go_size;done)))⟩;simp_all)
 obtain rfl : a = 0:=by omega
 by_cases d0 : op = 29
 ·subst d0
  have e : tk 29 0 = (0,1,0,0,true):=by
   unfold tk
   repeat (first | rw [if_pos (by omega)] | rw [if_neg (by omega)])
  have hc : cnt 29 = false:=by unfold cnt;first | rfl | (rw [decide_eq_true_eq];omega) | (rw [decide_eq_false_iff_not];omega)
  rw [e]
  have HK:=Lib.hid (fun W=>rcounted_any 29 W)
  rw [hc] at HK
  clear e hc
  go_enter Tryd.func23,Tryd.ntmps23
  go_wp2_with (go_at_call 45;with_reducible refine (HK.out _).mono ?_;rintro _ _ ⟨rfl,rfl⟩)
  all_goals refine bodyPost_ret (by simp [results,Tryd.results23,go_sem, *];try rfl) rfl ?_
  all_goals first | exact ⟨rfl,by (repeat' first|(with_reducible first|exact blR _ _|assumption|refine blD ?_|refine blN ?_ _)|((with_reducible first|refine blA ?_ ?_ _|refine blS ?_ ?_ _|refine blT (by assumption) ?_ ?_);focus (go_size;done)))⟩ | (refine ⟨?_,by (repeat' first|(with_reducible first|exact blR _ _|assumption|refine blD ?_|refine blN ?_ _)|((with_reducible first|refine blA ?_ ?_ _|refine blS ?_ ?_ _|refine blT (by assumption) ?_ ?_);focus (go_size;done)))⟩;simp_all)
 by_cases d1 : 1 ≤ op ∧ op ≤ 7
 ·obtain ⟨da,db⟩:=d1
  have q25 : (op == 25) = false:=by rw [beq_eq_false_iff_ne];omega
  have r25 : (op != 25) = true:=by rw [bne_iff_ne];omega
  have q36 : (op == 36) = false:=by rw [beq_eq_false_iff_ne];omega
  have r36 : (op != 36) = true:=by rw [bne_iff_ne];omega
  have q101 : (op == 101) = false:=by rw [beq_eq_false_iff_ne];omega
  have r101 : (op != 101) = true:=by rw [bne_iff_ne];omega
  have q102 : (op == 102) = false:=by rw [beq_eq_false_iff_ne];omega
  have r102 : (op != 102) = true:=by rw [bne_iff_ne];omega
  have q26 : (op == 26) = false:=by rw [beq_eq_false_iff_ne];omega
  have q27 : (op == 27) = false:=by rw [beq_eq_false_iff_ne];omega
  have q8 : (op == 8) = false:=by rw [beq_eq_false_iff_ne];omega
  have q24 : (op == 24) = false:=by rw [beq_eq_false_iff_ne];omega
  have q28 : (op == 28) = false:=by rw [beq_eq_false_iff_ne];omega
  have q37 : (op == 37) = false:=by rw [beq_eq_false_iff_ne];omega
  have q29 : (op == 29) = false:=by rw [beq_eq_false_iff_ne];omega
  have q22 : (op == 22) = false:=by rw [beq_eq_false_iff_ne];omega
  have q35 : (op == 35) = false:=by rw [beq_eq_false_iff_ne];omega
  have q103 : (op == 103) = false:=by rw [beq_eq_false_iff_ne];omega
  have q104 : (op == 104) = false:=by rw [beq_eq_false_iff_ne];omega
  have e : tk op 0 = (0,1,0,0,true):=by
   unfold tk
   repeat (first | rw [if_pos (by omega)] | rw [if_neg (by omega)])
  have hc : cnt op = false:=by unfold cnt;first | rfl | (rw [decide_eq_true_eq];omega) | (rw [decide_eq_false_iff_not];omega)
  rw [e]
  have HK:=Lib.hid (fun W=>rcounted_any op W)
  rw [hc] at HK
  clear e hc
  go_enter Tryd.func23,Tryd.ntmps23
  go_wp2_with (go_at_call 45;with_reducible refine (HK.out _).mono ?_;rintro _ _ ⟨rfl,rfl⟩)
  all_goals refine bodyPost_ret (by simp [results,Tryd.results23,go_sem, *];try rfl) rfl ?_
  all_goals first | exact ⟨rfl,by (repeat' first|(with_reducible first|exact blR _ _|assumption|refine blD ?_|refine blN ?_ _)|((with_reducible first|refine blA ?_ ?_ _|refine blS ?_ ?_ _|refine blT (by assumption) ?_ ?_);focus (go_size;done)))⟩ | (refine ⟨?_,by (repeat' first|(with_reducible first|exact blR _ _|assumption|refine blD ?_|refine blN ?_ _)|((with_reducible first|refine blA ?_ ?_ _|refine blS ?_ ?_ _|refine blT (by assumption) ?_ ?_);focus (go_size;done)))⟩;simp_all)
 by_cases d2 : op = 8
 ·subst d2
  have e : tk 8 0 = (1,1,0,0,true):=by
   unfold tk
   repeat (first | rw [if_pos (by omega)] | rw [if_neg (by omega)])
  have hc : cnt 8 = false:=by unfold cnt;first | rfl | (rw [decide_eq_true_eq];omega) | (rw [decide_eq_false_iff_not];omega)
  rw [e]
  have HK:=Lib.hid (fun W=>rcounted_any 8 W)
  rw [hc] at HK
  clear e hc
  go_enter Tryd.func23,Tryd.ntmps23
  go_wp2_with (go_at_call 45;with_reducible refine (HK.out _).mono ?_;rintro _ _ ⟨rfl,rfl⟩)
  all_goals refine bodyPost_ret (by simp [results,Tryd.results23,go_sem, *];try rfl) rfl ?_
  all_goals first | exact ⟨rfl,by (repeat' first|(with_reducible first|exact blR _ _|assumption|refine blD ?_|refine blN ?_ _)|((with_reducible first|refine blA ?_ ?_ _|refine blS ?_ ?_ _|refine blT (by assumption) ?_ ?_);focus (go_size;done)))⟩ | (refine ⟨?_,by (repeat' first|(with_reducible first|exact blR _ _|assumption|refine blD ?_|refine blN ?_ _)|((with_reducible first|refine blA ?_ ?_ _|refine blS ?_ ?_ _|refine blT (by assumption) ?_ ?_);focus (go_size;done)))⟩;simp_all)
 by_cases d3 : op = 24
 ·subst d3
  have e : tk 24 0 = (1,1,0,0,true):=by
   unfold tk
   repeat (first | rw [if_pos (by omega)] | rw [if_neg (by omega)])
  have hc : cnt 24 = false:=by unfold cnt;first | rfl | (rw [decide_eq_true_eq];omega) | (rw [decide_eq_false_iff_not];omega)
  rw [e]
  have HK:=Lib.hid (fun W=>rcounted_any 24 W)
  rw [hc] at HK
  clear e hc
  go_enter Tryd.func23,Tryd.ntmps23
  go_wp2_with (go_at_call 45;with_reducible refine (HK.out _).mono ?_;rintro _ _ ⟨rfl,rfl⟩)
  all_goals refine bodyPost_ret (by simp [results,Tryd.results23,go_sem, *];try rfl) rfl ?_
  all_goals first | exact ⟨rfl,by (repeat' first|(with_reducible first|exact blR _ _|assumption|refine blD ?_|refine blN ?_ _)|((with_reducible first|refine blA ?_ ?_ _|refine blS ?_ ?_ _|refine blT (by assumption) ?_ ?_);focus (go_size;done)))⟩ | (refine ⟨?_,by (repeat' first|(with_reducible first|exact blR _ _|assumption|refine blD ?_|refine blN ?_ _)|((with_reducible first|refine blA ?_ ?_ _|refine blS ?_ ?_ _|refine blT (by assumption) ?_ ?_);focus (go_size;done)))⟩;simp_all)
 by_cases d4 : op = 28
 ·subst d4
  have e : tk 28 0 = (1,1,0,0,true):=by
   unfold tk
   repeat (first | rw [if_pos (by omega)] | rw [if_neg (by omega)])
  have hc : cnt 28 = false:=by unfold cnt;first | rfl | (rw [decide_eq_true_eq];omega) | (rw [decide_eq_false_iff_not];omega)
  rw [e]
  have HK:=Lib.hid (fun W=>rcounted_any 28 W)
  rw [hc] at HK
  clear e hc
  go_enter Tryd.func23,Tryd.ntmps23
  go_wp2_with (go_at_call 45;with_reducible refine (HK.out _).mono ?_;rintro _ _ ⟨rfl,rfl⟩)
  all_goals refine bodyPost_ret (by simp [results,Tryd.results23,go_sem, *];try rfl) rfl ?_
  all_goals first | exact ⟨rfl,by (repeat' first|(with_reducible first|exact blR _ _|assumption|refine blD ?_|refine blN ?_ _)|((with_reducible first|refine blA ?_ ?_ _|refine blS ?_ ?_ _|refine blT (by assumption) ?_ ?_);focus (go_size;done)))⟩ | (refine ⟨?_,by (repeat' first|(with_reducible first|exact blR _ _|assumption|refine blD ?_|refine blN ?_ _)|((with_reducible first|refine blA ?_ ?_ _|refine blS ?_ ?_ _|refine blT (by assumption) ?_ ?_);focus (go_size;done)))⟩;simp_all)
 by_cases d5 : op = 37
 ·subst d5
  have e : tk 37 0 = (1,1,0,0,true):=by
   unfold tk
   repeat (first | rw [if_pos (by omega)] | rw [if_neg (by omega)])
  have hc : cnt 37 = false:=by unfold cnt;first | rfl | (rw [decide_eq_true_eq];omega) | (rw [decide_eq_false_iff_not];omega)
  rw [e]
  have HK:=Lib.hid (fun W=>rcounted_any 37 W)
  rw [hc] at HK
  clear e hc
  go_enter Tryd.func23,Tryd.ntmps23
  go_wp2_with (go_at_call 45;with_reducible refine (HK.out _).mono ?_;rintro _ _ ⟨rfl,rfl⟩)
  all_goals refine bodyPost_ret (by simp [results,Tryd.results23,go_sem, *];try rfl) rfl ?_
  all_goals first | exact ⟨rfl,by (repeat' first|(with_reducible first|exact blR _ _|assumption|refine blD ?_|refine blN ?_ _)|((with_reducible first|refine blA ?_ ?_ _|refine blS ?_ ?_ _|refine blT (by assumption) ?_ ?_);focus (go_size;done)))⟩ | (refine ⟨?_,by (repeat' first|(with_reducible first|exact blR _ _|assumption|refine blD ?_|refine blN ?_ _)|((with_reducible first|refine blA ?_ ?_ _|refine blS ?_ ?_ _|refine blT (by assumption) ?_ ?_);focus (go_size;done)))⟩;simp_all)
 by_cases d6 : 9 ≤ op ∧ op ≤ 20
 ·obtain ⟨da,db⟩:=d6
  have q25 : (op == 25) = false:=by rw [beq_eq_false_iff_ne];omega
  have r25 : (op != 25) = true:=by rw [bne_iff_ne];omega
  have q36 : (op == 36) = false:=by rw [beq_eq_false_iff_ne];omega
  have r36 : (op != 36) = true:=by rw [bne_iff_ne];omega
  have q101 : (op == 101) = false:=by rw [beq_eq_false_iff_ne];omega
  have r101 : (op != 101) = true:=by rw [bne_iff_ne];omega
  have q102 : (op == 102) = false:=by rw [beq_eq_false_iff_ne];omega
  have r102 : (op != 102) = true:=by rw [bne_iff_ne];omega
  have q26 : (op == 26) = false:=by rw [beq_eq_false_iff_ne];omega
  have q27 : (op == 27) = false:=by rw [beq_eq_false_iff_ne];omega
  have q8 : (op == 8) = false:=by rw [beq_eq_false_iff_ne];omega
  have q24 : (op == 24) = false:=by rw [beq_eq_false_iff_ne];omega
  have q28 : (op == 28) = false:=by rw [beq_eq_false_iff_ne];omega
  have q37 : (op == 37) = false:=by rw [beq_eq_false_iff_ne];omega
  have q29 : (op == 29) = false:=by rw [beq_eq_false_iff_ne];omega
  have q22 : (op == 22) = false:=by rw [beq_eq_false_iff_ne];omega
  have q35 : (op == 35) = false:=by rw [beq_eq_false_iff_ne];omega
  have q103 : (op == 103) = false:=by rw [beq_eq_false_iff_ne];omega
  have q104 : (op == 104) = false:=by rw [beq_eq_false_iff_ne];omega
  have e : tk op 0 = (2,1,0,0,true):=by
   unfold tk
   repeat (first | rw [if_pos (by omega)] | rw [if_neg (by omega)])
  have hc : cnt op = false:=by unfold cnt;first | rfl | (rw [decide_eq_true_eq];omega) | (rw [decide_eq_false_iff_not];omega)
  rw [e]
  have HK:=Lib.hid (fun W=>rcounted_any op W)
  rw [hc] at HK
  clear e hc
  go_enter Tryd.func23,Tryd.ntmps23
  go_wp2_with (go_at_call 45;with_reducible refine (HK.out _).mono ?_;rintro _ _ ⟨rfl,rfl⟩)
  all_goals refine bodyPost_ret (by simp [results,Tryd.results23,go_sem, *];try rfl) rfl ?_
  all_goals first | exact ⟨rfl,by (repeat' first|(with_reducible first|exact blR _ _|assumption|refine blD ?_|refine blN ?_ _)|((with_reducible first|refine blA ?_ ?_ _|refine blS ?_ ?_ _|refine blT (by assumption) ?_ ?_);focus (go_size;done)))⟩ | (refine ⟨?_,by (repeat' first|(with_reducible first|exact blR _ _|assumption|refine blD ?_|refine blN ?_ _)|((with_reducible first|refine blA ?_ ?_ _|refine blS ?_ ?_ _|refine blT (by assumption) ?_ ?_);focus (go_size;done)))⟩;simp_all)
 by_cases d7 : op = 22
 ·subst d7
  have e : tk 22 0 = (3,1,0,0,true):=by
   unfold tk
   repeat (first | rw [if_pos (by omega)] | rw [if_neg (by omega)])
  have hc : cnt 22 = false:=by unfold cnt;first | rfl | (rw [decide_eq_true_eq];omega) | (rw [decide_eq_false_iff_not];omega)
  rw [e]
  have HK:=Lib.hid (fun W=>rcounted_any 22 W)
  rw [hc] at HK
  clear e hc
  go_enter Tryd.func23,Tryd.ntmps23
  go_wp2_with (go_at_call 45;with_reducible refine (HK.out _).mono ?_;rintro _ _ ⟨rfl,rfl⟩)
  all_goals refine bodyPost_ret (by simp [results,Tryd.results23,go_sem, *];try rfl) rfl ?_
  all_goals first | exact ⟨rfl,by (repeat' first|(with_reducible first|exact blR _ _|assumption|refine blD ?_|refine blN ?_ _)|((with_reducible first|refine blA ?_ ?_ _|refine blS ?_ ?_ _|refine blT (by assumption) ?_ ?_);focus (go_size;done)))⟩ | (refine ⟨?_,by (repeat' first|(with_reducible first|exact blR _ _|assumption|refine blD ?_|refine blN ?_ _)|((with_reducible first|refine blA ?_ ?_ _|refine blS ?_ ?_ _|refine blT (by assumption) ?_ ?_);focus (go_size;done)))⟩;simp_all)
 by_cases d8 : 30 ≤ op ∧ op ≤ 34
 ·obtain ⟨da,db⟩:=d8
  have q25 : (op == 25) = false:=by rw [beq_eq_false_iff_ne];omega
  have r25 : (op != 25) = true:=by rw [bne_iff_ne];omega
  have q36 : (op == 36) = false:=by rw [beq_eq_false_iff_ne];omega
  have r36 : (op != 36) = true:=by rw [bne_iff_ne];omega
  have q101 : (op == 101) = false:=by rw [beq_eq_false_iff_ne];omega
  have r101 : (op != 101) = true:=by rw [bne_iff_ne];omega
  have q102 : (op == 102) = false:=by rw [beq_eq_false_iff_ne];omega
  have r102 : (op != 102) = true:=by rw [bne_iff_ne];omega
  have q26 : (op == 26) = false:=by rw [beq_eq_false_iff_ne];omega
  have q27 : (op == 27) = false:=by rw [beq_eq_false_iff_ne];omega
  have q8 : (op == 8) = false:=by rw [beq_eq_false_iff_ne];omega
  have q24 : (op == 24) = false:=by rw [beq_eq_false_iff_ne];omega
  have q28 : (op == 28) = false:=by rw [beq_eq_false_iff_ne];omega
  have q37 : (op == 37) = false:=by rw [beq_eq_false_iff_ne];omega
  have q29 : (op == 29) = false:=by rw [beq_eq_false_iff_ne];omega
  have q22 : (op == 22) = false:=by rw [beq_eq_false_iff_ne];omega
  have q35 : (op == 35) = false:=by rw [beq_eq_false_iff_ne];omega
  have q103 : (op == 103) = false:=by rw [beq_eq_false_iff_ne];omega
  have q104 : (op == 104) = false:=by rw [beq_eq_false_iff_ne];omega
  have e : tk op 0 = (1,1,0,1,true):=by
   unfold tk
   repeat (first | rw [if_pos (by omega)] | rw [if_neg (by omega)])
  have hc : cnt op = false:=by unfold cnt;first | rfl | (rw [decide_eq_true_eq];omega) | (rw [decide_eq_false_iff_not];omega)
  rw [e]
  have HK:=Lib.hid (fun W=>rcounted_any op W)
  rw [hc] at HK
  clear e hc
  go_enter Tryd.func23,Tryd.ntmps23
  go_wp2_with (go_at_call 45;with_reducible refine (HK.out _).mono ?_;rintro _ _ ⟨rfl,rfl⟩)
  all_goals refine bodyPost_ret (by simp [results,Tryd.results23,go_sem, *];try rfl) rfl ?_
  all_goals first | exact ⟨rfl,by (repeat' first|(with_reducible first|exact blR _ _|assumption|refine blD ?_|refine blN ?_ _)|((with_reducible first|refine blA ?_ ?_ _|refine blS ?_ ?_ _|refine blT (by assumption) ?_ ?_);focus (go_size;done)))⟩ | (refine ⟨?_,by (repeat' first|(with_reducible first|exact blR _ _|assumption|refine blD ?_|refine blN ?_ _)|((with_reducible first|refine blA ?_ ?_ _|refine blS ?_ ?_ _|refine blT (by assumption) ?_ ?_);focus (go_size;done)))⟩;simp_all)
 by_cases d9 : op = 35
 ·subst d9
  have e : tk 35 0 = (2,1,0,1,true):=by
   unfold tk
   repeat (first | rw [if_pos (by omega)] | rw [if_neg (by omega)])
  have hc : cnt 35 = false:=by unfold cnt;first | rfl | (rw [decide_eq_true_eq];omega) | (rw [decide_eq_false_iff_not];omega)
  rw [e]
  have HK:=Lib.hid (fun W=>rcounted_any 35 W)
  rw [hc] at HK
  clear e hc
  go_enter Tryd.func23,Tryd.ntmps23
  go_wp2_with (go_at_call 45;with_reducible refine (HK.out _).mono ?_;rintro _ _ ⟨rfl,rfl⟩)
  all_goals refine bodyPost_ret (by simp [results,Tryd.results23,go_sem, *];try rfl) rfl ?_
  all_goals first | exact ⟨rfl,by (repeat' first|(with_reducible first|exact blR _ _|assumption|refine blD ?_|refine blN ?_ _)|((with_reducible first|refine blA ?_ ?_ _|refine blS ?_ ?_ _|refine blT (by assumption) ?_ ?_);focus (go_size;done)))⟩ | (refine ⟨?_,by (repeat' first|(with_reducible first|exact blR _ _|assumption|refine blD ?_|refine blN ?_ _)|((with_reducible first|refine blA ?_ ?_ _|refine blS ?_ ?_ _|refine blT (by assumption) ?_ ?_);focus (go_size;done)))⟩;simp_all)
 by_cases d10 : op = 103
 ·subst d10
  have e : tk 103 0 = (1,0,1,0,true):=by
   unfold tk
   repeat (first | rw [if_pos (by omega)] | rw [if_neg (by omega)])
  have hc : cnt 103 = false:=by unfold cnt;first | rfl | (rw [decide_eq_true_eq];omega) | (rw [decide_eq_false_iff_not];omega)
  rw [e]
  have HK:=Lib.hid (fun W=>rcounted_any 103 W)
  rw [hc] at HK
  clear e hc
  go_enter Tryd.func23,Tryd.ntmps23
  go_wp2_with (go_at_call 45;with_reducible refine (HK.out _).mono ?_;rintro _ _ ⟨rfl,rfl⟩)
  all_goals refine bodyPost_ret (by simp [results,Tryd.results23,go_sem, *];try rfl) rfl ?_
  all_goals first | exact ⟨rfl,by (repeat' first|(with_reducible first|exact blR _ _|assumption|refine blD ?_|refine blN ?_ _)|((with_reducible first|refine blA ?_ ?_ _|refine blS ?_ ?_ _|refine blT (by assumption) ?_ ?_);focus (go_size;done)))⟩ | (refine ⟨?_,by (repeat' first|(with_reducible first|exact blR _ _|assumption|refine blD ?_|refine blN ?_ _)|((with_reducible first|refine blA ?_ ?_ _|refine blS ?_ ?_ _|refine blT (by assumption) ?_ ?_);focus (go_size;done)))⟩;simp_all)
 by_cases d11 : op = 104
 ·subst d11
  have e : tk 104 0 = (0,0,-1,1,true):=by
   unfold tk
   repeat (first | rw [if_pos (by omega)] | rw [if_neg (by omega)])
  have hc : cnt 104 = false:=by unfold cnt;first | rfl | (rw [decide_eq_true_eq];omega) | (rw [decide_eq_false_iff_not];omega)
  rw [e]
  have HK:=Lib.hid (fun W=>rcounted_any 104 W)
  rw [hc] at HK
  clear e hc
  go_enter Tryd.func23,Tryd.ntmps23
  go_wp2_with (go_at_call 45;with_reducible refine (HK.out _).mono ?_;rintro _ _ ⟨rfl,rfl⟩)
  all_goals refine bodyPost_ret (by simp [results,Tryd.results23,go_sem, *];try rfl) rfl ?_
  all_goals first | exact ⟨rfl,by (repeat' first|(with_reducible first|exact blR _ _|assumption|refine blD ?_|refine blN ?_ _)|((with_reducible first|refine blA ?_ ?_ _|refine blS ?_ ?_ _|refine blT (by assumption) ?_ ?_);focus (go_size;done)))⟩ | (refine ⟨?_,by (repeat' first|(with_reducible first|exact blR _ _|assumption|refine blD ?_|refine blN ?_ _)|((with_reducible first|refine blA ?_ ?_ _|refine blS ?_ ?_ _|refine blT (by assumption) ?_ ?_);focus (go_size;done)))⟩;simp_all)
 by_cases d12 : op = 21
 ·subst d12
  have e : tk 21 0 = (0,0,0,0,false):=by
   unfold tk
   repeat (first | rw [if_pos (by omega)] | rw [if_neg (by omega)])
  have hc : cnt 21 = false:=by unfold cnt;first | rfl | (rw [decide_eq_true_eq];omega) | (rw [decide_eq_false_iff_not];omega)
  rw [e]
  have HK:=Lib.hid (fun W=>rcounted_any 21 W)
  rw [hc] at HK
  clear e hc
  go_enter Tryd.func23,Tryd.ntmps23
  go_wp2_with (go_at_call 45;with_reducible refine (HK.out _).mono ?_;rintro _ _ ⟨rfl,rfl⟩)
  all_goals refine bodyPost_ret (by simp [results,Tryd.results23,go_sem, *];try rfl) rfl ?_
  all_goals first | exact ⟨rfl,by (repeat' first|(with_reducible first|exact blR _ _|assumption|refine blD ?_|refine blN ?_ _)|((with_reducible first|refine blA ?_ ?_ _|refine blS ?_ ?_ _|refine blT (by assumption) ?_ ?_);focus (go_size;done)))⟩ | (refine ⟨?_,by (repeat' first|(with_reducible first|exact blR _ _|assumption|refine blD ?_|refine blN ?_ _)|((with_reducible first|refine blA ?_ ?_ _|refine blS ?_ ?_ _|refine blT (by assumption) ?_ ?_);focus (go_size;done)))⟩;simp_all)
 by_cases d13 : op = 23
 ·subst d13
  have e : tk 23 0 = (0,0,0,0,false):=by
   unfold tk
   repeat (first | rw [if_pos (by omega)] | rw [if_neg (by omega)])
  have hc : cnt 23 = false:=by unfold cnt;first | rfl | (rw [decide_eq_true_eq];omega) | (rw [decide_eq_false_iff_not];omega)
  rw [e]
  have HK:=Lib.hid (fun W=>rcounted_any 23 W)
  rw [hc] at HK
  clear e hc
  go_enter Tryd.func23,Tryd.ntmps23
  go_wp2_with (go_at_call 45;with_reducible refine (HK.out _).mono ?_;rintro _ _ ⟨rfl,rfl⟩)
  all_goals refine bodyPost_ret (by simp [results,Tryd.results23,go_sem, *];try rfl) rfl ?_
  all_goals first | exact ⟨rfl,by (repeat' first|(with_reducible first|exact blR _ _|assumption|refine blD ?_|refine blN ?_ _)|((with_reducible first|refine blA ?_ ?_ _|refine blS ?_ ?_ _|refine blT (by assumption) ?_ ?_);focus (go_size;done)))⟩ | (refine ⟨?_,by (repeat' first|(with_reducible first|exact blR _ _|assumption|refine blD ?_|refine blN ?_ _)|((with_reducible first|refine blA ?_ ?_ _|refine blS ?_ ?_ _|refine blT (by assumption) ?_ ?_);focus (go_size;done)))⟩;simp_all)
 by_cases d14 : op ≤ 0
 ·have tok:=trivial
  have q25 : (op == 25) = false:=by rw [beq_eq_false_iff_ne];omega
  have r25 : (op != 25) = true:=by rw [bne_iff_ne];omega
  have q36 : (op == 36) = false:=by rw [beq_eq_false_iff_ne];omega
  have r36 : (op != 36) = true:=by rw [bne_iff_ne];omega
  have q101 : (op == 101) = false:=by rw [beq_eq_false_iff_ne];omega
  have r101 : (op != 101) = true:=by rw [bne_iff_ne];omega
  have q102 : (op == 102) = false:=by rw [beq_eq_false_iff_ne];omega
  have r102 : (op != 102) = true:=by rw [bne_iff_ne];omega
  have q26 : (op == 26) = false:=by rw [beq_eq_false_iff_ne];omega
  have q27 : (op == 27) = false:=by rw [beq_eq_false_iff_ne];omega
  have q8 : (op == 8) = false:=by rw [beq_eq_false_iff_ne];omega
  have q24 : (op == 24) = false:=by rw [beq_eq_false_iff_ne];omega
  have q28 : (op == 28) = false:=by rw [beq_eq_false_iff_ne];omega
  have q37 : (op == 37) = false:=by rw [beq_eq_false_iff_ne];omega
  have q29 : (op == 29) = false:=by rw [beq_eq_false_iff_ne];omega
  have q22 : (op == 22) = false:=by rw [beq_eq_false_iff_ne];omega
  have q35 : (op == 35) = false:=by rw [beq_eq_false_iff_ne];omega
  have q103 : (op == 103) = false:=by rw [beq_eq_false_iff_ne];omega
  have q104 : (op == 104) = false:=by rw [beq_eq_false_iff_ne];omega
  have e : tk op 0 = (0,0,0,0,false):=by
   unfold tk
   repeat (first | rw [if_pos (by omega)] | rw [if_neg (by omega)])
  have hc : cnt op = false:=by unfold cnt;first | rfl | (rw [decide_eq_true_eq];omega) | (rw [decide_eq_false_iff_not];omega)
  rw [e]
  have HK:=Lib.hid (fun W=>rcounted_any op W)
  rw [hc] at HK
  clear e hc
  go_enter Tryd.func23,Tryd.ntmps23
  go_wp2_with (go_at_call 45;with_reducible refine (HK.out _).mono ?_;rintro _ _ ⟨rfl,rfl⟩)
  all_goals refine bodyPost_ret (by simp [results,Tryd.results23,go_sem, *];try rfl) rfl ?_
  all_goals first | exact ⟨rfl,by (repeat' first|(with_reducible first|exact blR _ _|assumption|refine blD ?_|refine blN ?_ _)|((with_reducible first|refine blA ?_ ?_ _|refine blS ?_ ?_ _|refine blT (by assumption) ?_ ?_);focus (go_size;done)))⟩ | (refine ⟨?_,by (repeat' first|(with_reducible first|exact blR _ _|assumption|refine blD ?_|refine blN ?_ _)|((with_reducible first|refine blA ?_ ?_ _|refine blS ?_ ?_ _|refine blT (by assumption) ?_ ?_);focus (go_size;done)))⟩;simp_all)
 by_cases d15 : 105 ≤ op
 ·have tok:=trivial
  have q25 : (op == 25) = false:=by rw [beq_eq_false_iff_ne];omega
  have r25 : (op != 25) = true:=by rw [bne_iff_ne];omega
  have q36 : (op == 36) = false:=by rw [beq_eq_false_iff_ne];omega
  have r36 : (op != 36) = true:=by rw [bne_iff_ne];omega
  have q101 : (op == 101) = false:=by rw [beq_eq_false_iff_ne];omega
  have r101 : (op != 101) = true:=by rw [bne_iff_ne];omega
  have q102 : (op == 102) = false:=by rw [beq_eq_false_iff_ne];omega
  have r102 : (op != 102) = true:=by rw [bne_iff_ne];omega
  have q26 : (op == 26) = false:=by rw [beq_eq_false_iff_ne];omega
  have q27 : (op == 27) = false:=by rw [beq_eq_false_iff_ne];omega
  have q8 : (op == 8) = false:=by rw [beq_eq_false_iff_ne];omega
  have q24 : (op == 24) = false:=by rw [beq_eq_false_iff_ne];omega
  have q28 : (op == 28) = false:=by rw [beq_eq_false_iff_ne];omega
  have q37 : (op == 37) = false:=by rw [beq_eq_false_iff_ne];omega
  have q29 : (op == 29) = false:=by rw [beq_eq_false_iff_ne];omega
  have q22 : (op == 22) = false:=by rw [beq_eq_false_iff_ne];omega
  have q35 : (op == 35) = false:=by rw [beq_eq_false_iff_ne];omega
  have q103 : (op == 103) = false:=by rw [beq_eq_false_iff_ne];omega
  have q104 : (op == 104) = false:=by rw [beq_eq_false_iff_ne];omega
  have e : tk op 0 = (0,0,0,0,false):=by
   unfold tk
   repeat (first | rw [if_pos (by omega)] | rw [if_neg (by omega)])
  have hc : cnt op = false:=by unfold cnt;first | rfl | (rw [decide_eq_true_eq];omega) | (rw [decide_eq_false_iff_not];omega)
  rw [e]
  have HK:=Lib.hid (fun W=>rcounted_any op W)
  rw [hc] at HK
  clear e hc
  go_enter Tryd.func23,Tryd.ntmps23
  go_wp2_with (go_at_call 45;with_reducible refine (HK.out _).mono ?_;rintro _ _ ⟨rfl,rfl⟩)
  all_goals refine bodyPost_ret (by simp [results,Tryd.results23,go_sem, *];try rfl) rfl ?_
  all_goals first | exact ⟨rfl,by (repeat' first|(with_reducible first|exact blR _ _|assumption|refine blD ?_|refine blN ?_ _)|((with_reducible first|refine blA ?_ ?_ _|refine blS ?_ ?_ _|refine blT (by assumption) ?_ ?_);focus (go_size;done)))⟩ | (refine ⟨?_,by (repeat' first|(with_reducible first|exact blR _ _|assumption|refine blD ?_|refine blN ?_ _)|((with_reducible first|refine blA ?_ ?_ _|refine blS ?_ ?_ _|refine blT (by assumption) ?_ ?_);focus (go_size;done)))⟩;simp_all)
 have da : 38 ≤ op:=by omega
 have db : op ≤ 100:=by omega
 have q25 : (op == 25) = false:=by rw [beq_eq_false_iff_ne];omega
 have r25 : (op != 25) = true:=by rw [bne_iff_ne];omega
 have q36 : (op == 36) = false:=by rw [beq_eq_false_iff_ne];omega
 have r36 : (op != 36) = true:=by rw [bne_iff_ne];omega
 have q101 : (op == 101) = false:=by rw [beq_eq_false_iff_ne];omega
 have r101 : (op != 101) = true:=by rw [bne_iff_ne];omega
 have q102 : (op == 102) = false:=by rw [beq_eq_false_iff_ne];omega
 have r102 : (op != 102) = true:=by rw [bne_iff_ne];omega
 have q26 : (op == 26) = false:=by rw [beq_eq_false_iff_ne];omega
 have q27 : (op == 27) = false:=by rw [beq_eq_false_iff_ne];omega
 have q8 : (op == 8) = false:=by rw [beq_eq_false_iff_ne];omega
 have q24 : (op == 24) = false:=by rw [beq_eq_false_iff_ne];omega
 have q28 : (op == 28) = false:=by rw [beq_eq_false_iff_ne];omega
 have q37 : (op == 37) = false:=by rw [beq_eq_false_iff_ne];omega
 have q29 : (op == 29) = false:=by rw [beq_eq_false_iff_ne];omega
 have q22 : (op == 22) = false:=by rw [beq_eq_false_iff_ne];omega
 have q35 : (op == 35) = false:=by rw [beq_eq_false_iff_ne];omega
 have q103 : (op == 103) = false:=by rw [beq_eq_false_iff_ne];omega
 have q104 : (op == 104) = false:=by rw [beq_eq_false_iff_ne];omega
 have e : tk op 0 = (0,0,0,0,false):=by
  unfold tk
  repeat (first | rw [if_pos (by omega)] | rw [if_neg (by omega)])
 have hc : cnt op = false:=by unfold cnt;first | rfl | (rw [decide_eq_true_eq];omega) | (rw [decide_eq_false_iff_not];omega)
 rw [e]
 have HK:=Lib.hid (fun W=>rcounted_any op W)
 rw [hc] at HK
 clear e hc
 go_enter Tryd.func23,Tryd.ntmps23
 go_wp2_with (go_at_call 45;with_reducible refine (HK.out _).mono ?_;rintro _ _ ⟨rfl,rfl⟩)
 all_goals refine bodyPost_ret (by simp [results,Tryd.results23,go_sem, *];try rfl) rfl ?_
 all_goals first | exact ⟨rfl,by (repeat' first|(with_reducible first|exact blR _ _|assumption|refine blD ?_|refine blN ?_ _)|((with_reducible first|refine blA ?_ ?_ _|refine blS ?_ ?_ _|refine blT (by assumption) ?_ ?_);focus (go_size;done)))⟩ | (refine ⟨?_,by (repeat' first|(with_reducible first|exact blR _ _|assumption|refine blD ?_|refine blN ?_ _)|((with_reducible first|refine blA ?_ ?_ _|refine blS ?_ ?_ _|refine blT (by assumption) ?_ ?_);focus (go_size;done)))⟩;simp_all)
end Go.Proofs.YtnhmplfonkjfoaaDoor



namespace Go.Proofs.YtnhmplfonkjfoaaDoor

def note (S : St) (k : Nat) (x : Way) : Option St :=
 match S.getD k none with
 | none=>some (S.set k (some x))
 | some y=>if y = x then some S else none
def after (op a : Int) (x : Way) : Way:=(x.1 - (tk op a).1 + (tk op a).2.1,x.2 + (tk op a).2.2.1)
def isJ (op : Int) : Bool:=decide (op = 101 ∨ op = 102)
def vGo (n : Nat) (f : Int) : List (Int × Int) → Nat → St → Int → Int × Int
 | [],_,S,m=>if S.getD n none = some (1,f) then (max m 1,0) else (0,2)
 | (op,a) :: r,i,S,m =>
  match S.getD i none with
  | none=>(0,2)
  | some x =>
   if (tk op a).2.2.2.2 = true ∧ (tk op a).1 ≤ x.1 ∧ (tk op a).2.2.2.1 ≤ x.2 then
    match (if isJ op = true then (if (i : Int) < a ∧ a ≤ n then note S a.toNat (after op a x) else none) else some S) with
    | none=>(0,2)
    | some S1 =>
     match (if op = 101 then some S1 else note S1 (i + 1) (after op a x)) with
     | none=>(0,2)
     | some S2=>vGo n f r (i + 1) S2 (max m x.1)
   else (0,2)
def verS (is : List (Int × Int)) (f : Int) : Int × Int:=if 600 < is.length then (0,6) else vGo is.length f is 0 (some (0,f) :: List.replicate is.length none) 0
def TB (a : Int) (z : Int × Int × Int × Int × Bool) : Prop:=z.2.2.2.2 = true → 0 ≤ z.1 ∧ 0 ≤ z.2.1 ∧ z.2.1 ≤ 1 ∧ -1 ≤ z.2.2.1 ∧ z.2.2.1 ≤ 1 ∧ 0 ≤ z.2.2.2.1 ∧ z.2.2.2.1 ≤ 1 ∧ (z.1 = a ∨ z.1 ≤ 3)
theorem TB.ite {a : Int} {c : Prop} [Decidable c] {x y : Int × Int × Int × Int × Bool} (h : c → TB a x) (k : ¬ c → TB a y) : TB a (if c then x else y):=by
 by_cases hc : c
 ·rw [if_pos hc];exact h hc
 ·rw [if_neg hc];exact k hc
theorem tk_TB (op a : Int) : TB a (tk op a):=by
 unfold tk
 (repeat' (refine TB.ite (fun _=>?_) (fun _=>?_))) <;> (unfold TB;intro h;first | (exact Bool.noConfusion h) | (refine ⟨?_, ?_, ?_, ?_, ?_, ?_, ?_, ?_⟩ <;> dsimp only <;> omega))
theorem tk_bounds {op a : Int} (h : (tk op a).2.2.2.2 = true) : 0 ≤ (tk op a).1 ∧ 0 ≤ (tk op a).2.1 ∧ (tk op a).2.1 ≤ 1 ∧ -1 ≤ (tk op a).2.2.1 ∧ (tk op a).2.2.1 ≤ 1 ∧ 0 ≤ (tk op a).2.2.2.1 ∧ (tk op a).2.2.2.1 ≤ 1 ∧ ((tk op a).1 = a ∨ (tk op a).1 ≤ 3):=tk_TB op a h
def InB (i : Nat) (x : Way) : Prop:=0 ≤ x.1 ∧ x.1 ≤ i ∧ -(i : Int) ≤ x.2 ∧ x.2 ≤ i + 1
theorem InB.next {i : Nat} {x : Way} {op a : Int} (h : InB i x) (hk : (tk op a).2.2.2.2 = true) (h1 : (tk op a).1 ≤ x.1) : InB (i + 1) (after op a x):=by
 obtain ⟨b1,b2,b3,b4,b5,_⟩:=tk_bounds hk
 obtain ⟨c1,c2,c3,c4⟩:=h
 unfold after
 refine ⟨?_, ?_, ?_, ?_⟩ <;> dsimp only <;> omega
theorem InB.up {i : Nat} {x : Way} (h : InB i x) : InB (i + 1) x:=by obtain ⟨c1,c2,c3,c4⟩:=h;exact ⟨c1,by omega,by omega,by omega⟩
section
variable {n i : Nat} {f op a m : Int} {r : List (Int × Int)} {S S1 S2 : St} {x : Way}
theorem vGo_none (h : S.getD i none = none) : vGo n f ((op,a) :: r) i S m = (0,2):=by unfold vGo;rw [h]
theorem vGo_bad (h : S.getD i none = some x) (hc : ¬ ((tk op a).2.2.2.2 = true ∧ (tk op a).1 ≤ x.1 ∧ (tk op a).2.2.2.1 ≤ x.2)) : vGo n f ((op,a) :: r) i S m = (0,2):=by
 unfold vGo;rw [h];dsimp only;rw [if_neg hc]
theorem vGo_out (h : S.getD i none = some x) (hc : (tk op a).2.2.2.2 = true ∧ (tk op a).1 ≤ x.1 ∧ (tk op a).2.2.2.1 ≤ x.2) (hj : isJ op = true) (hb : ¬ ((i : Int) < a ∧ a ≤ n)) : vGo n f ((op,a) :: r) i S m = (0,2):=by
 unfold vGo;rw [h];dsimp only;rw [if_pos hc,if_pos hj,if_neg hb]
theorem vGo_un (h : S.getD i none = some x) (hc : (tk op a).2.2.2.2 = true ∧ (tk op a).1 ≤ x.1 ∧ (tk op a).2.2.2.1 ≤ x.2) (hj : isJ op = true) (hb : (i : Int) < a ∧ a ≤ n) (hn : note S a.toNat (after op a x) = none) : vGo n f ((op,a) :: r) i S m = (0,2):=by
 unfold vGo;rw [h];dsimp only;rw [if_pos hc,if_pos hj,if_pos hb,hn]
def vTail (n : Nat) (f : Int) (op a : Int) (r : List (Int × Int)) (i : Nat) (S1 : St) (m : Int) (x : Way) : Int × Int :=
 match (if op = 101 then some S1 else note S1 (i + 1) (after op a x)) with
 | none=>(0,2)
 | some S2=>vGo n f r (i + 1) S2 (max m x.1)
theorem vGo_jump (h : S.getD i none = some x) (hc : (tk op a).2.2.2.2 = true ∧ (tk op a).1 ≤ x.1 ∧ (tk op a).2.2.2.1 ≤ x.2) (hj : isJ op = true) (hb : (i : Int) < a ∧ a ≤ n) (hn : note S a.toNat (after op a x) = some S1) : vGo n f ((op,a) :: r) i S m = vTail n f op a r i S1 m x:=by
 unfold vTail
 rw [vGo];rw [h];dsimp only;rw [if_pos hc,if_pos hj,if_pos hb,hn]
theorem vGo_plain (h : S.getD i none = some x) (hc : (tk op a).2.2.2.2 = true ∧ (tk op a).1 ≤ x.1 ∧ (tk op a).2.2.2.1 ≤ x.2) (hj : isJ op = false) : vGo n f ((op,a) :: r) i S m = vTail n f op a r i S m x:=by
 unfold vTail
 rw [vGo];rw [h];dsimp only;rw [if_pos hc,hj];rfl
theorem vTail_101 : vTail n f 101 a r i S1 m x = vGo n f r (i + 1) S1 (max m x.1):=rfl
theorem vTail_un (ho : op ≠ 101) (hn : note S1 (i + 1) (after op a x) = none) : vTail n f op a r i S1 m x = (0,2):=by unfold vTail;rw [if_neg ho,hn]
theorem vTail_go (ho : op ≠ 101) (hn : note S1 (i + 1) (after op a x) = some S2) : vTail n f op a r i S1 m x = vGo n f r (i + 1) S2 (max m x.1):=by unfold vTail;rw [if_neg ho,hn]
end
theorem note_length {S S' : St} {k : Nat} {x : Way} (h : note S k x = some S') : S'.length = S.length:=by
 unfold note at h
 split at h
 ·injection h with h;subst h;simp
 ·split at h
  ·injection h with h;subst h;rfl
  ·cases h
theorem note_inB {S S' : St} {k i : Nat} {x : Way} (h : note S k x = some S') (hk : k < S.length) (hS : ∀ j y,S.getD j none = some y → InB i y) (hx : InB i x) : ∀ j y,S'.getD j none = some y → InB i y:=by
 intro j y hy
 unfold note at h
 split at h
 ·injection h with h;subst h
  rw [getD_setO S k j _ hk] at hy
  split at hy
  ·injection hy with hy;subst hy;exact hx
  ·exact hS j y hy
 ·split at h
  ·injection h with h;subst h;exact hS j y hy
  ·cases h
end Go.Proofs.YtnhmplfonkjfoaaDoor



namespace Go.Proofs.YtnhmplfonkjfoaaDoor
open Go.RowKit

section
variable {w w' : World} {o o' : Nat → Nat} {l g : Nat} {S : St} {T : Nat → Prop}
theorem Stt.lab (h : Stt w o l g S) : o g = l:=by obtain ⟨cs,h1,h2⟩:=h;exact h1.2
end
def ReachPost (w : World) (o : Nat → Nat) (l g : Nat) (S : St) (k : Nat) (x : Way) (e : Ending) (w' : World) : Prop :=
 Turn (· = l) w o w' o ∧ ((∃ S',note S k x = some S' ∧ e = .returned (.bool true) ∧ Stt w' o l g S') ∨ (note S k x = none ∧ e = .returned (.bool false)))
set_option maxRecDepth 100000 in
theorem eq_state (a b : Bool) (c d e f : Int) (W : World) : (binOp .eql 60 (.agg #[.bool a,.int .i64 c,.int .i64 e]) (.agg #[.bool b,.int .i64 d,.int .i64 f])).run Tryd.prog W = .ok (.bool (a == b && (c == d && e == f))) W:=by
 go_simp
 by_cases h0 : a = b <;> by_cases h1 : c = d <;> by_cases h2 : e = f <;> simp [h0,h1,h2]
set_option maxRecDepth 100000 in
theorem neq_state (a b : Bool) (c d e f : Int) (W : World) : (binOp .neq 60 (.agg #[.bool a,.int .i64 c,.int .i64 e]) (.agg #[.bool b,.int .i64 d,.int .i64 f])).run Tryd.prog W = .ok (.bool (!(a == b && (c == d && e == f)))) W:=by
 go_simp
 by_cases h0 : a = b <;> by_cases h1 : c = d <;> by_cases h2 : e = f <;> simp [h0,h1,h2]
set_option maxHeartbeats 1000000 in
theorem reach_any (w : World) (o : Nat → Nat) (l g : Nat) (S : St) (h : Stt w o l g S) (k : Nat) (hk : k < S.length) (x : Way) :
  Calls Tryd.prog 26 #[.pointer (some ⟨g,k * 3,none⟩),.int .i64 x.1,.int .i64 x.2] w (ReachPost w o l g S k x):=by
 obtain ⟨c0,c1,c2⟩:=h.cells hk
 have hlt:=h.lt
 have f0:=h.frozen (k * 3)
 have f1:=h.frozen (k * 3 + 1)
 have f2:=h.frozen (k * 3 + 2)
 have HS:=Lib.hid h
 obtain ⟨x1,x2⟩:=x
 cases e : S.getD k none with
 | none =>
  rw [e] at c0 c1 c2
  have HN : Hid (note S k (x1,x2) = some (S.set k (some (x1,x2)))):=Lib.hid (by unfold note;rw [e])
  dsimp only [oB,oH,oE,Option.isSome,Option.getD] at c0 c1 c2
  clear h e
  go_enter Tryd.func26,Tryd.ntmps26
  go_wp2_with fail
  go_ret
  refine ⟨?_,.inl ⟨_,HN.out,rfl, ?_⟩⟩
  ·exact (((((Turn.refl (· = l) w o).setCell (.inr HS.out.lab) _).setCell (.inr HS.out.lab) _).setCell (.inr HS.out.lab) _).alloc _)
  ·exact (HS.out.store hk (x1,x2)).alloc _
 | some y =>
  rw [e] at c0 c1 c2
  obtain ⟨y1,y2⟩:=y
  dsimp only [oB,oH,oE,Option.isSome,Option.getD] at c0 c1 c2
  have r1 : ∀ W,(binOp .eql 60 (.agg #[.bool true,.int .i64 y1,.int .i64 y2]) (.agg #[.bool true,.int .i64 x1,.int .i64 x2])).run Tryd.prog W = .ok (.bool (y1 == x1 && y2 == x2)) W:=fun W=>by rw [eq_state];rfl
  have HN : Hid (note S k (x1,x2) = if (y1 == x1 && y2 == x2) = true then some S else none):=Lib.hid (by
   unfold note;rw [e];dsimp only
   by_cases h1 : y1 = x1 <;> by_cases h2 : y2 = x2 <;> simp [h1,h2])
  generalize (y1 == x1 && y2 == x2) = b at *
  clear h e
  go_enter Tryd.func26,Tryd.ntmps26
  go_wp2_with fail
  go_quiet (fail)
  go_wp2_with fail
  go_ret
  refine ⟨(Turn.refl (· = l) w o).alloc _ |>.drewN _, ?_⟩
  have hn:=HN.out
  cases b with
  | true=>exact .inl ⟨_,hn,rfl,(HS.out.alloc _).drewN _⟩
  | false=>exact .inr ⟨hn,rfl⟩
end Go.Proofs.YtnhmplfonkjfoaaDoor



namespace Go.Proofs.YtnhmplfonkjfoaaDoor
open Go.RowKit

set_option maxHeartbeats 4000000 in
theorem effect_any (op a : Int) (tx : ByteArray) (ng : Bool) (hi lo sc dy : Int) (w : World) : Calls Tryd.prog 25 #[.agg #[.int .i64 op,.int .i64 a,.string tx,.bool ng,.int .u64 hi,.int .u64 lo,.int .i64 sc,.int .i64 dy]] w fun e w'=>e = .returned (.tuple #[.agg #[.int .i64 (tk op a).1,.int .i64 (tk op a).2.1,.int .i64 (tk op a).2.2.1,.int .i64 (tk op a).2.2.2.1],.bool (tk op a).2.2.2.2]) ∧ Below w.heap.size w w':=by
 rcases Int.lt_or_le a 0 with h0 | h0
 ·have tok:=trivial
  have e : tk op a = (0,0,0,0,false):=by
   unfold tk
   repeat (first | rw [if_pos (by omega)] | rw [if_neg (by omega)])
  have hc : cnt op = cnt op:=by unfold cnt;first | rfl | (rw [decide_eq_true_eq];omega) | (rw [decide_eq_false_iff_not];omega)
  rw [e]
  have HK:=Lib.hid (fun W=>counted_any op W)
  rw [hc] at HK
  clear e hc
  go_enter Tryd.func25,Tryd.ntmps25
  go_wp2_with (go_at_call 44;with_reducible refine (HK.out _).mono ?_;rintro _ _ ⟨rfl,rfl⟩)
  all_goals refine bodyPost_ret (by simp [results,Tryd.results25,go_sem, *];try rfl) rfl ?_
  all_goals first | exact ⟨rfl,by (repeat' first|(with_reducible first|exact blR _ _|assumption|refine blD ?_|refine blN ?_ _)|((with_reducible first|refine blA ?_ ?_ _|refine blS ?_ ?_ _|refine blT (by assumption) ?_ ?_);focus (go_size;done)))⟩ | (refine ⟨?_,by (repeat' first|(with_reducible first|exact blR _ _|assumption|refine blD ?_|refine blN ?_ _)|((with_reducible first|refine blA ?_ ?_ _|refine blS ?_ ?_ _|refine blT (by assumption) ?_ ?_);focus (go_size;done)))⟩;simp_all)
 by_cases c1 : op = 25
 ·subst c1
  by_cases c2 : 8 < a
  ·have tok:=trivial
   have e : tk 25 a = (0,0,0,0,false):=by
    unfold tk
    repeat (first | rw [if_pos (by omega)] | rw [if_neg (by omega)])
   have hc : cnt 25 = true:=by unfold cnt;first | rfl | (rw [decide_eq_true_eq];omega) | (rw [decide_eq_false_iff_not];omega)
   rw [e]
   have HK:=Lib.hid (fun W=>counted_any 25 W)
   rw [hc] at HK
   clear e hc
   go_enter Tryd.func25,Tryd.ntmps25
   go_wp2_with (go_at_call 44;with_reducible refine (HK.out _).mono ?_;rintro _ _ ⟨rfl,rfl⟩)
   all_goals refine bodyPost_ret (by simp [results,Tryd.results25,go_sem, *];try rfl) rfl ?_
   all_goals first | exact ⟨rfl,by (repeat' first|(with_reducible first|exact blR _ _|assumption|refine blD ?_|refine blN ?_ _)|((with_reducible first|refine blA ?_ ?_ _|refine blS ?_ ?_ _|refine blT (by assumption) ?_ ?_);focus (go_size;done)))⟩ | (refine ⟨?_,by (repeat' first|(with_reducible first|exact blR _ _|assumption|refine blD ?_|refine blN ?_ _)|((with_reducible first|refine blA ?_ ?_ _|refine blS ?_ ?_ _|refine blT (by assumption) ?_ ?_);focus (go_size;done)))⟩;simp_all)
  ·have c3 : a ≤ 8:=by omega
   have e : tk 25 a = (a,1,0,0,true):=by
    unfold tk
    repeat (first | rw [if_pos (by omega)] | rw [if_neg (by omega)])
   have hc : cnt 25 = true:=by unfold cnt;first | rfl | (rw [decide_eq_true_eq];omega) | (rw [decide_eq_false_iff_not];omega)
   rw [e]
   have HK:=Lib.hid (fun W=>counted_any 25 W)
   rw [hc] at HK
   clear e hc
   go_enter Tryd.func25,Tryd.ntmps25
   go_wp2_with (go_at_call 44;with_reducible refine (HK.out _).mono ?_;rintro _ _ ⟨rfl,rfl⟩)
   all_goals refine bodyPost_ret (by simp [results,Tryd.results25,go_sem, *];try rfl) rfl ?_
   all_goals first | exact ⟨rfl,by (repeat' first|(with_reducible first|exact blR _ _|assumption|refine blD ?_|refine blN ?_ _)|((with_reducible first|refine blA ?_ ?_ _|refine blS ?_ ?_ _|refine blT (by assumption) ?_ ?_);focus (go_size;done)))⟩ | (refine ⟨?_,by (repeat' first|(with_reducible first|exact blR _ _|assumption|refine blD ?_|refine blN ?_ _)|((with_reducible first|refine blA ?_ ?_ _|refine blS ?_ ?_ _|refine blT (by assumption) ?_ ?_);focus (go_size;done)))⟩;simp_all)
 by_cases c2 : op = 36
 ·subst c2
  by_cases c2 : a < 1
  ·have tok:=trivial
   have e : tk 36 a = (0,0,0,0,false):=by
    unfold tk
    repeat (first | rw [if_pos (by omega)] | rw [if_neg (by omega)])
   have hc : cnt 36 = true:=by unfold cnt;first | rfl | (rw [decide_eq_true_eq];omega) | (rw [decide_eq_false_iff_not];omega)
   rw [e]
   have HK:=Lib.hid (fun W=>counted_any 36 W)
   rw [hc] at HK
   clear e hc
   go_enter Tryd.func25,Tryd.ntmps25
   go_wp2_with (go_at_call 44;with_reducible refine (HK.out _).mono ?_;rintro _ _ ⟨rfl,rfl⟩)
   all_goals refine bodyPost_ret (by simp [results,Tryd.results25,go_sem, *];try rfl) rfl ?_
   all_goals first | exact ⟨rfl,by (repeat' first|(with_reducible first|exact blR _ _|assumption|refine blD ?_|refine blN ?_ _)|((with_reducible first|refine blA ?_ ?_ _|refine blS ?_ ?_ _|refine blT (by assumption) ?_ ?_);focus (go_size;done)))⟩ | (refine ⟨?_,by (repeat' first|(with_reducible first|exact blR _ _|assumption|refine blD ?_|refine blN ?_ _)|((with_reducible first|refine blA ?_ ?_ _|refine blS ?_ ?_ _|refine blT (by assumption) ?_ ?_);focus (go_size;done)))⟩;simp_all)
  ·have c3 : 1 ≤ a:=by omega
   have e : tk 36 a = (a,1,0,0,true):=by
    unfold tk
    repeat (first | rw [if_pos (by omega)] | rw [if_neg (by omega)])
   have hc : cnt 36 = true:=by unfold cnt;first | rfl | (rw [decide_eq_true_eq];omega) | (rw [decide_eq_false_iff_not];omega)
   rw [e]
   have HK:=Lib.hid (fun W=>counted_any 36 W)
   rw [hc] at HK
   clear e hc
   go_enter Tryd.func25,Tryd.ntmps25
   go_wp2_with (go_at_call 44;with_reducible refine (HK.out _).mono ?_;rintro _ _ ⟨rfl,rfl⟩)
   all_goals refine bodyPost_ret (by simp [results,Tryd.results25,go_sem, *];try rfl) rfl ?_
   all_goals first | exact ⟨rfl,by (repeat' first|(with_reducible first|exact blR _ _|assumption|refine blD ?_|refine blN ?_ _)|((with_reducible first|refine blA ?_ ?_ _|refine blS ?_ ?_ _|refine blT (by assumption) ?_ ?_);focus (go_size;done)))⟩ | (refine ⟨?_,by (repeat' first|(with_reducible first|exact blR _ _|assumption|refine blD ?_|refine blN ?_ _)|((with_reducible first|refine blA ?_ ?_ _|refine blS ?_ ?_ _|refine blT (by assumption) ?_ ?_);focus (go_size;done)))⟩;simp_all)
 by_cases c3 : op = 26
 ·subst c3
  have e : tk 26 a = (a,1,0,0,true):=by
   unfold tk
   repeat (first | rw [if_pos (by omega)] | rw [if_neg (by omega)])
  have hc : cnt 26 = true:=by unfold cnt;first | rfl | (rw [decide_eq_true_eq];omega) | (rw [decide_eq_false_iff_not];omega)
  rw [e]
  have HK:=Lib.hid (fun W=>counted_any 26 W)
  rw [hc] at HK
  clear e hc
  go_enter Tryd.func25,Tryd.ntmps25
  go_wp2_with (go_at_call 44;with_reducible refine (HK.out _).mono ?_;rintro _ _ ⟨rfl,rfl⟩)
  all_goals refine bodyPost_ret (by simp [results,Tryd.results25,go_sem, *];try rfl) rfl ?_
  all_goals first | exact ⟨rfl,by (repeat' first|(with_reducible first|exact blR _ _|assumption|refine blD ?_|refine blN ?_ _)|((with_reducible first|refine blA ?_ ?_ _|refine blS ?_ ?_ _|refine blT (by assumption) ?_ ?_);focus (go_size;done)))⟩ | (refine ⟨?_,by (repeat' first|(with_reducible first|exact blR _ _|assumption|refine blD ?_|refine blN ?_ _)|((with_reducible first|refine blA ?_ ?_ _|refine blS ?_ ?_ _|refine blT (by assumption) ?_ ?_);focus (go_size;done)))⟩;simp_all)
 by_cases c4 : op = 27
 ·subst c4
  have e : tk 27 a = (a,1,0,0,true):=by
   unfold tk
   repeat (first | rw [if_pos (by omega)] | rw [if_neg (by omega)])
  have hc : cnt 27 = true:=by unfold cnt;first | rfl | (rw [decide_eq_true_eq];omega) | (rw [decide_eq_false_iff_not];omega)
  rw [e]
  have HK:=Lib.hid (fun W=>counted_any 27 W)
  rw [hc] at HK
  clear e hc
  go_enter Tryd.func25,Tryd.ntmps25
  go_wp2_with (go_at_call 44;with_reducible refine (HK.out _).mono ?_;rintro _ _ ⟨rfl,rfl⟩)
  all_goals refine bodyPost_ret (by simp [results,Tryd.results25,go_sem, *];try rfl) rfl ?_
  all_goals first | exact ⟨rfl,by (repeat' first|(with_reducible first|exact blR _ _|assumption|refine blD ?_|refine blN ?_ _)|((with_reducible first|refine blA ?_ ?_ _|refine blS ?_ ?_ _|refine blT (by assumption) ?_ ?_);focus (go_size;done)))⟩ | (refine ⟨?_,by (repeat' first|(with_reducible first|exact blR _ _|assumption|refine blD ?_|refine blN ?_ _)|((with_reducible first|refine blA ?_ ?_ _|refine blS ?_ ?_ _|refine blT (by assumption) ?_ ?_);focus (go_size;done)))⟩;simp_all)
 by_cases c5 : op = 101
 ·subst c5
  have e : tk 101 a = (0,0,0,0,true):=by
   unfold tk
   repeat (first | rw [if_pos (by omega)] | rw [if_neg (by omega)])
  have hc : cnt 101 = false:=by unfold cnt;first | rfl | (rw [decide_eq_true_eq];omega) | (rw [decide_eq_false_iff_not];omega)
  rw [e]
  have HK:=Lib.hid (fun W=>counted_any 101 W)
  rw [hc] at HK
  clear e hc
  go_enter Tryd.func25,Tryd.ntmps25
  go_wp2_with (go_at_call 44;with_reducible refine (HK.out _).mono ?_;rintro _ _ ⟨rfl,rfl⟩)
  all_goals refine bodyPost_ret (by simp [results,Tryd.results25,go_sem, *];try rfl) rfl ?_
  all_goals first | exact ⟨rfl,by (repeat' first|(with_reducible first|exact blR _ _|assumption|refine blD ?_|refine blN ?_ _)|((with_reducible first|refine blA ?_ ?_ _|refine blS ?_ ?_ _|refine blT (by assumption) ?_ ?_);focus (go_size;done)))⟩ | (refine ⟨?_,by (repeat' first|(with_reducible first|exact blR _ _|assumption|refine blD ?_|refine blN ?_ _)|((with_reducible first|refine blA ?_ ?_ _|refine blS ?_ ?_ _|refine blT (by assumption) ?_ ?_);focus (go_size;done)))⟩;simp_all)
 by_cases c6 : op = 102
 ·subst c6
  have e : tk 102 a = (1,0,0,0,true):=by
   unfold tk
   repeat (first | rw [if_pos (by omega)] | rw [if_neg (by omega)])
  have hc : cnt 102 = false:=by unfold cnt;first | rfl | (rw [decide_eq_true_eq];omega) | (rw [decide_eq_false_iff_not];omega)
  rw [e]
  have HK:=Lib.hid (fun W=>counted_any 102 W)
  rw [hc] at HK
  clear e hc
  go_enter Tryd.func25,Tryd.ntmps25
  go_wp2_with (go_at_call 44;with_reducible refine (HK.out _).mono ?_;rintro _ _ ⟨rfl,rfl⟩)
  all_goals refine bodyPost_ret (by simp [results,Tryd.results25,go_sem, *];try rfl) rfl ?_
  all_goals first | exact ⟨rfl,by (repeat' first|(with_reducible first|exact blR _ _|assumption|refine blD ?_|refine blN ?_ _)|((with_reducible first|refine blA ?_ ?_ _|refine blS ?_ ?_ _|refine blT (by assumption) ?_ ?_);focus (go_size;done)))⟩ | (refine ⟨?_,by (repeat' first|(with_reducible first|exact blR _ _|assumption|refine blD ?_|refine blN ?_ _)|((with_reducible first|refine blA ?_ ?_ _|refine blS ?_ ?_ _|refine blT (by assumption) ?_ ?_);focus (go_size;done)))⟩;simp_all)
 by_cases c7 : a ≠ 0
 ·have tok:=trivial
  have q25 : (op == 25) = false:=by rw [beq_eq_false_iff_ne];omega
  have r25 : (op != 25) = true:=by rw [bne_iff_ne];omega
  have q36 : (op == 36) = false:=by rw [beq_eq_false_iff_ne];omega
  have r36 : (op != 36) = true:=by rw [bne_iff_ne];omega
  have q101 : (op == 101) = false:=by rw [beq_eq_false_iff_ne];omega
  have r101 : (op != 101) = true:=by rw [bne_iff_ne];omega
  have q102 : (op == 102) = false:=by rw [beq_eq_false_iff_ne];omega
  have r102 : (op != 102) = true:=by rw [bne_iff_ne];omega
  have ra : (a != 0) = true:=by rw [bne_iff_ne];omega
  have e : tk op a = (0,0,0,0,false):=by
   unfold tk
   repeat (first | rw [if_pos (by omega)] | rw [if_neg (by omega)])
  have hc : cnt op = false:=by unfold cnt;first | rfl | (rw [decide_eq_true_eq];omega) | (rw [decide_eq_false_iff_not];omega)
  rw [e]
  have HK:=Lib.hid (fun W=>counted_any op W)
  rw [hc] at HK
  clear e hc
  go_enter Tryd.func25,Tryd.ntmps25
  go_wp2_with (go_at_call 44;with_reducible refine (HK.out _).mono ?_;rintro _ _ ⟨rfl,rfl⟩)
  all_goals refine bodyPost_ret (by simp [results,Tryd.results25,go_sem, *];try rfl) rfl ?_
  all_goals first | exact ⟨rfl,by (repeat' first|(with_reducible first|exact blR _ _|assumption|refine blD ?_|refine blN ?_ _)|((with_reducible first|refine blA ?_ ?_ _|refine blS ?_ ?_ _|refine blT (by assumption) ?_ ?_);focus (go_size;done)))⟩ | (refine ⟨?_,by (repeat' first|(with_reducible first|exact blR _ _|assumption|refine blD ?_|refine blN ?_ _)|((with_reducible first|refine blA ?_ ?_ _|refine blS ?_ ?_ _|refine blT (by assumption) ?_ ?_);focus (go_size;done)))⟩;simp_all)
 obtain rfl : a = 0:=by omega
 by_cases d0 : op = 29
 ·subst d0
  have e : tk 29 0 = (0,1,0,0,true):=by
   unfold tk
   repeat (first | rw [if_pos (by omega)] | rw [if_neg (by omega)])
  have hc : cnt 29 = false:=by unfold cnt;first | rfl | (rw [decide_eq_true_eq];omega) | (rw [decide_eq_false_iff_not];omega)
  rw [e]
  have HK:=Lib.hid (fun W=>counted_any 29 W)
  rw [hc] at HK
  clear e hc
  go_enter Tryd.func25,Tryd.ntmps25
  go_wp2_with (go_at_call 44;with_reducible refine (HK.out _).mono ?_;rintro _ _ ⟨rfl,rfl⟩)
  all_goals refine bodyPost_ret (by simp [results,Tryd.results25,go_sem, *];try rfl) rfl ?_
  all_goals first | exact ⟨rfl,by (repeat' first|(with_reducible first|exact blR _ _|assumption|refine blD ?_|refine blN ?_ _)|((with_reducible first|refine blA ?_ ?_ _|refine blS ?_ ?_ _|refine blT (by assumption) ?_ ?_);focus (go_size;done)))⟩ | (refine ⟨?_,by (repeat' first|(with_reducible first|exact blR _ _|assumption|refine blD ?_|refine blN ?_ _)|((with_reducible first|refine blA ?_ ?_ _|refine blS ?_ ?_ _|refine blT (by assumption) ?_ ?_);focus (go_size;done)))⟩;simp_all)
 by_cases d1 : 1 ≤ op ∧ op ≤ 7
 ·obtain ⟨da,db⟩:=d1
  have q25 : (op == 25) = false:=by rw [beq_eq_false_iff_ne];omega
  have r25 : (op != 25) = true:=by rw [bne_iff_ne];omega
  have q36 : (op == 36) = false:=by rw [beq_eq_false_iff_ne];omega
  have r36 : (op != 36) = true:=by rw [bne_iff_ne];omega
  have q101 : (op == 101) = false:=by rw [beq_eq_false_iff_ne];omega
  have r101 : (op != 101) = true:=by rw [bne_iff_ne];omega
  have q102 : (op == 102) = false:=by rw [beq_eq_false_iff_ne];omega
  have r102 : (op != 102) = true:=by rw [bne_iff_ne];omega
  have q26 : (op == 26) = false:=by rw [beq_eq_false_iff_ne];omega
  have q27 : (op == 27) = false:=by rw [beq_eq_false_iff_ne];omega
  have q8 : (op == 8) = false:=by rw [beq_eq_false_iff_ne];omega
  have q24 : (op == 24) = false:=by rw [beq_eq_false_iff_ne];omega
  have q28 : (op == 28) = false:=by rw [beq_eq_false_iff_ne];omega
  have q37 : (op == 37) = false:=by rw [beq_eq_false_iff_ne];omega
  have q29 : (op == 29) = false:=by rw [beq_eq_false_iff_ne];omega
  have q22 : (op == 22) = false:=by rw [beq_eq_false_iff_ne];omega
  have q35 : (op == 35) = false:=by rw [beq_eq_false_iff_ne];omega
  have q103 : (op == 103) = false:=by rw [beq_eq_false_iff_ne];omega
  have q104 : (op == 104) = false:=by rw [beq_eq_false_iff_ne];omega
  have e : tk op 0 = (0,1,0,0,true):=by
   unfold tk
   repeat (first | rw [if_pos (by omega)] | rw [if_neg (by omega)])
  have hc : cnt op = false:=by unfold cnt;first | rfl | (rw [decide_eq_true_eq];omega) | (rw [decide_eq_false_iff_not];omega)
  rw [e]
  have HK:=Lib.hid (fun W=>counted_any op W)
  rw [hc] at HK
  clear e hc
  go_enter Tryd.func25,Tryd.ntmps25
  go_wp2_with (go_at_call 44;with_reducible refine (HK.out _).mono ?_;rintro _ _ ⟨rfl,rfl⟩)
  all_goals refine bodyPost_ret (by simp [results,Tryd.results25,go_sem, *];try rfl) rfl ?_
  all_goals first | exact ⟨rfl,by (repeat' first|(with_reducible first|exact blR _ _|assumption|refine blD ?_|refine blN ?_ _)|((with_reducible first|refine blA ?_ ?_ _|refine blS ?_ ?_ _|refine blT (by assumption) ?_ ?_);focus (go_size;done)))⟩ | (refine ⟨?_,by (repeat' first|(with_reducible first|exact blR _ _|assumption|refine blD ?_|refine blN ?_ _)|((with_reducible first|refine blA ?_ ?_ _|refine blS ?_ ?_ _|refine blT (by assumption) ?_ ?_);focus (go_size;done)))⟩;simp_all)
 by_cases d2 : op = 8
 ·subst d2
  have e : tk 8 0 = (1,1,0,0,true):=by
   unfold tk
   repeat (first | rw [if_pos (by omega)] | rw [if_neg (by omega)])
  have hc : cnt 8 = false:=by unfold cnt;first | rfl | (rw [decide_eq_true_eq];omega) | (rw [decide_eq_false_iff_not];omega)
  rw [e]
  have HK:=Lib.hid (fun W=>counted_any 8 W)
  rw [hc] at HK
  clear e hc
  go_enter Tryd.func25,Tryd.ntmps25
  go_wp2_with (go_at_call 44;with_reducible refine (HK.out _).mono ?_;rintro _ _ ⟨rfl,rfl⟩)
  all_goals refine bodyPost_ret (by simp [results,Tryd.results25,go_sem, *];try rfl) rfl ?_
  all_goals first | exact ⟨rfl,by (repeat' first|(with_reducible first|exact blR _ _|assumption|refine blD ?_|refine blN ?_ _)|((with_reducible first|refine blA ?_ ?_ _|refine blS ?_ ?_ _|refine blT (by assumption) ?_ ?_);focus (go_size;done)))⟩ | (refine ⟨?_,by (repeat' first|(with_reducible first|exact blR _ _|assumption|refine blD ?_|refine blN ?_ _)|((with_reducible first|refine blA ?_ ?_ _|refine blS ?_ ?_ _|refine blT (by assumption) ?_ ?_);focus (go_size;done)))⟩;simp_all)
 by_cases d3 : op = 24
 ·subst d3
  have e : tk 24 0 = (1,1,0,0,true):=by
   unfold tk
   repeat (first | rw [if_pos (by omega)] | rw [if_neg (by omega)])
  have hc : cnt 24 = false:=by unfold cnt;first | rfl | (rw [decide_eq_true_eq];omega) | (rw [decide_eq_false_iff_not];omega)
  rw [e]
  have HK:=Lib.hid (fun W=>counted_any 24 W)
  rw [hc] at HK
  clear e hc
  go_enter Tryd.func25,Tryd.ntmps25
  go_wp2_with (go_at_call 44;with_reducible refine (HK.out _).mono ?_;rintro _ _ ⟨rfl,rfl⟩)
  all_goals refine bodyPost_ret (by simp [results,Tryd.results25,go_sem, *];try rfl) rfl ?_
  all_goals first | exact ⟨rfl,by (repeat' first|(with_reducible first|exact blR _ _|assumption|refine blD ?_|refine blN ?_ _)|((with_reducible first|refine blA ?_ ?_ _|refine blS ?_ ?_ _|refine blT (by assumption) ?_ ?_);focus (go_size;done)))⟩ | (refine ⟨?_,by (repeat' first|(with_reducible first|exact blR _ _|assumption|refine blD ?_|refine blN ?_ _)|((with_reducible first|refine blA ?_ ?_ _|refine blS ?_ ?_ _|refine blT (by assumption) ?_ ?_);focus (go_size;done)))⟩;simp_all)
 by_cases d4 : op = 28
 ·subst d4
  have e : tk 28 0 = (1,1,0,0,true):=by
   unfold tk
   repeat (first | rw [if_pos (by omega)] | rw [if_neg (by omega)])
  have hc : cnt 28 = false:=by unfold cnt;first | rfl | (rw [decide_eq_true_eq];omega) | (rw [decide_eq_false_iff_not];omega)
  rw [e]
  have HK:=Lib.hid (fun W=>counted_any 28 W)
  rw [hc] at HK
  clear e hc
  go_enter Tryd.func25,Tryd.ntmps25
  go_wp2_with (go_at_call 44;with_reducible refine (HK.out _).mono ?_;rintro _ _ ⟨rfl,rfl⟩)
  all_goals refine bodyPost_ret (by simp [results,Tryd.results25,go_sem, *];try rfl) rfl ?_
  all_goals first | exact ⟨rfl,by (repeat' first|(with_reducible first|exact blR _ _|assumption|refine blD ?_|refine blN ?_ _)|((with_reducible first|refine blA ?_ ?_ _|refine blS ?_ ?_ _|refine blT (by assumption) ?_ ?_);focus (go_size;done)))⟩ | (refine ⟨?_,by (repeat' first|(with_reducible first|exact blR _ _|assumption|refine blD ?_|refine blN ?_ _)|((with_reducible first|refine blA ?_ ?_ _|refine blS ?_ ?_ _|refine blT (by assumption) ?_ ?_);focus (go_size;done)))⟩;simp_all)
 by_cases d5 : op = 37
 ·subst d5
  have e : tk 37 0 = (1,1,0,0,true):=by
   unfold tk
   repeat (first | rw [if_pos (by omega)] | rw [if_neg (by omega)])
  have hc : cnt 37 = false:=by unfold cnt;first | rfl | (rw [decide_eq_true_eq];omega) | (rw [decide_eq_false_iff_not];omega)
  rw [e]
  have HK:=Lib.hid (fun W=>counted_any 37 W)
  rw [hc] at HK
  clear e hc
  go_enter Tryd.func25,Tryd.ntmps25
  go_wp2_with (go_at_call 44;with_reducible refine (HK.out _).mono ?_;rintro _ _ ⟨rfl,rfl⟩)
  all_goals refine bodyPost_ret (by simp [results,Tryd.results25,go_sem, *];try rfl) rfl ?_
  all_goals first | exact ⟨rfl,by (repeat' first|(with_reducible first|exact blR _ _|assumption|refine blD ?_|refine blN ?_ _)|((with_reducible first|refine blA ?_ ?_ _|refine blS ?_ ?_ _|refine blT (by assumption) ?_ ?_);focus (go_size;done)))⟩ | (refine ⟨?_,by (repeat' first|(with_reducible first|exact blR _ _|assumption|refine blD ?_|refine blN ?_ _)|((with_reducible first|refine blA ?_ ?_ _|refine blS ?_ ?_ _|refine blT (by assumption) ?_ ?_);focus (go_size;done)))⟩;simp_all)
 by_cases d6 : 9 ≤ op ∧ op ≤ 20
 ·obtain ⟨da,db⟩:=d6
  have q25 : (op == 25) = false:=by rw [beq_eq_false_iff_ne];omega
  have r25 : (op != 25) = true:=by rw [bne_iff_ne];omega
  have q36 : (op == 36) = false:=by rw [beq_eq_false_iff_ne];omega
  have r36 : (op != 36) = true:=by rw [bne_iff_ne];omega
  have q101 : (op == 101) = false:=by rw [beq_eq_false_iff_ne];omega
  have r101 : (op != 101) = true:=by rw [bne_iff_ne];omega
  have q102 : (op == 102) = false:=by rw [beq_eq_false_iff_ne];omega
  have r102 : (op != 102) = true:=by rw [bne_iff_ne];omega
  have q26 : (op == 26) = false:=by rw [beq_eq_false_iff_ne];omega
  have q27 : (op == 27) = false:=by rw [beq_eq_false_iff_ne];omega
  have q8 : (op == 8) = false:=by rw [beq_eq_false_iff_ne];omega
  have q24 : (op == 24) = false:=by rw [beq_eq_false_iff_ne];omega
  have q28 : (op == 28) = false:=by rw [beq_eq_false_iff_ne];omega
  have q37 : (op == 37) = false:=by rw [beq_eq_false_iff_ne];omega
  have q29 : (op == 29) = false:=by rw [beq_eq_false_iff_ne];omega
  have q22 : (op == 22) = false:=by rw [beq_eq_false_iff_ne];omega
  have q35 : (op == 35) = false:=by rw [beq_eq_false_iff_ne];omega
  have q103 : (op == 103) = false:=by rw [beq_eq_false_iff_ne];omega
  have q104 : (op == 104) = false:=by rw [beq_eq_false_iff_ne];omega
  have e : tk op 0 = (2,1,0,0,true):=by
   unfold tk
   repeat (first | rw [if_pos (by omega)] | rw [if_neg (by omega)])
  have hc : cnt op = false:=by unfold cnt;first | rfl | (rw [decide_eq_true_eq];omega) | (rw [decide_eq_false_iff_not];omega)
  rw [e]
  have HK:=Lib.hid (fun W=>counted_any op W)
  rw [hc] at HK
  clear e hc
  go_enter Tryd.func25,Tryd.ntmps25
  go_wp2_with (go_at_call 44;with_reducible refine (HK.out _).mono ?_;rintro _ _ ⟨rfl,rfl⟩)
  all_goals refine bodyPost_ret (by simp [results,Tryd.results25,go_sem, *];try rfl) rfl ?_
  all_goals first | exact ⟨rfl,by (repeat' first|(with_reducible first|exact blR _ _|assumption|refine blD ?_|refine blN ?_ _)|((with_reducible first|refine blA ?_ ?_ _|refine blS ?_ ?_ _|refine blT (by assumption) ?_ ?_);focus (go_size;done)))⟩ | (refine ⟨?_,by (repeat' first|(with_reducible first|exact blR _ _|assumption|refine blD ?_|refine blN ?_ _)|((with_reducible first|refine blA ?_ ?_ _|refine blS ?_ ?_ _|refine blT (by assumption) ?_ ?_);focus (go_size;done)))⟩;simp_all)
 by_cases d7 : op = 22
 ·subst d7
  have e : tk 22 0 = (3,1,0,0,true):=by
   unfold tk
   repeat (first | rw [if_pos (by omega)] | rw [if_neg (by omega)])
  have hc : cnt 22 = false:=by unfold cnt;first | rfl | (rw [decide_eq_true_eq];omega) | (rw [decide_eq_false_iff_not];omega)
  rw [e]
  have HK:=Lib.hid (fun W=>counted_any 22 W)
  rw [hc] at HK
  clear e hc
  go_enter Tryd.func25,Tryd.ntmps25
  go_wp2_with (go_at_call 44;with_reducible refine (HK.out _).mono ?_;rintro _ _ ⟨rfl,rfl⟩)
  all_goals refine bodyPost_ret (by simp [results,Tryd.results25,go_sem, *];try rfl) rfl ?_
  all_goals first | exact ⟨rfl,by (repeat' first|(with_reducible first|exact blR _ _|assumption|refine blD ?_|refine blN ?_ _)|((with_reducible first|refine blA ?_ ?_ _|refine blS ?_ ?_ _|refine blT (by assumption) ?_ ?_);focus (go_size;done)))⟩ | (refine ⟨?_,by (repeat' first|(with_reducible first|exact blR _ _|assumption|refine blD ?_|refine blN ?_ _)|((with_reducible first|refine blA ?_ ?_ _|refine blS ?_ ?_ _|refine blT (by assumption) ?_ ?_);focus (go_size;done)))⟩;simp_all)
 by_cases d8 : 30 ≤ op ∧ op ≤ 34
 ·obtain ⟨da,db⟩:=d8
  have q25 : (op == 25) = false:=by rw [beq_eq_false_iff_ne];omega
  have r25 : (op != 25) = true:=by rw [bne_iff_ne];omega
  have q36 : (op == 36) = false:=by rw [beq_eq_false_iff_ne];omega
  have r36 : (op != 36) = true:=by rw [bne_iff_ne];omega
  have q101 : (op == 101) = false:=by rw [beq_eq_false_iff_ne];omega
  have r101 : (op != 101) = true:=by rw [bne_iff_ne];omega
  have q102 : (op == 102) = false:=by rw [beq_eq_false_iff_ne];omega
  have r102 : (op != 102) = true:=by rw [bne_iff_ne];omega
  have q26 : (op == 26) = false:=by rw [beq_eq_false_iff_ne];omega
  have q27 : (op == 27) = false:=by rw [beq_eq_false_iff_ne];omega
  have q8 : (op == 8) = false:=by rw [beq_eq_false_iff_ne];omega
  have q24 : (op == 24) = false:=by rw [beq_eq_false_iff_ne];omega
  have q28 : (op == 28) = false:=by rw [beq_eq_false_iff_ne];omega
  have q37 : (op == 37) = false:=by rw [beq_eq_false_iff_ne];omega
  have q29 : (op == 29) = false:=by rw [beq_eq_false_iff_ne];omega
  have q22 : (op == 22) = false:=by rw [beq_eq_false_iff_ne];omega
  have q35 : (op == 35) = false:=by rw [beq_eq_false_iff_ne];omega
  have q103 : (op == 103) = false:=by rw [beq_eq_false_iff_ne];omega
  have q104 : (op == 104) = false:=by rw [beq_eq_false_iff_ne];omega
  have e : tk op 0 = (1,1,0,1,true):=by
   unfold tk
   repeat (first | rw [if_pos (by omega)] | rw [if_neg (by omega)])
  have hc : cnt op = false:=by unfold cnt;first | rfl | (rw [decide_eq_true_eq];omega) | (rw [decide_eq_false_iff_not];omega)
  rw [e]
  have HK:=Lib.hid (fun W=>counted_any op W)
  rw [hc] at HK
  clear e hc
  go_enter Tryd.func25,Tryd.ntmps25
  go_wp2_with (go_at_call 44;with_reducible refine (HK.out _).mono ?_;rintro _ _ ⟨rfl,rfl⟩)
  all_goals refine bodyPost_ret (by simp [results,Tryd.results25,go_sem, *];try rfl) rfl ?_
  all_goals first | exact ⟨rfl,by (repeat' first|(with_reducible first|exact blR _ _|assumption|refine blD ?_|refine blN ?_ _)|((with_reducible first|refine blA ?_ ?_ _|refine blS ?_ ?_ _|refine blT (by assumption) ?_ ?_);focus (go_size;done)))⟩ | (refine ⟨?_,by (repeat' first|(with_reducible first|exact blR _ _|assumption|refine blD ?_|refine blN ?_ _)|((with_reducible first|refine blA ?_ ?_ _|refine blS ?_ ?_ _|refine blT (by assumption) ?_ ?_);focus (go_size;done)))⟩;simp_all)
 by_cases d9 : op = 35
 ·subst d9
  have e : tk 35 0 = (2,1,0,1,true):=by
   unfold tk
   repeat (first | rw [if_pos (by omega)] | rw [if_neg (by omega)])
  have hc : cnt 35 = false:=by unfold cnt;first | rfl | (rw [decide_eq_true_eq];omega) | (rw [decide_eq_false_iff_not];omega)
  rw [e]
  have HK:=Lib.hid (fun W=>counted_any 35 W)
  rw [hc] at HK
  clear e hc
  go_enter Tryd.func25,Tryd.ntmps25
  go_wp2_with (go_at_call 44;with_reducible refine (HK.out _).mono ?_;rintro _ _ ⟨rfl,rfl⟩)
  all_goals refine bodyPost_ret (by simp [results,Tryd.results25,go_sem, *];try rfl) rfl ?_
  all_goals first | exact ⟨rfl,by (repeat' first|(with_reducible first|exact blR _ _|assumption|refine blD ?_|refine blN ?_ _)|((with_reducible first|refine blA ?_ ?_ _|refine blS ?_ ?_ _|refine blT (by assumption) ?_ ?_);focus (go_size;done)))⟩ | (refine ⟨?_,by (repeat' first|(with_reducible first|exact blR _ _|assumption|refine blD ?_|refine blN ?_ _)|((with_reducible first|refine blA ?_ ?_ _|refine blS ?_ ?_ _|refine blT (by assumption) ?_ ?_);focus (go_size;done)))⟩;simp_all)
 by_cases d10 : op = 103
 ·subst d10
  have e : tk 103 0 = (1,0,1,0,true):=by
   unfold tk
   repeat (first | rw [if_pos (by omega)] | rw [if_neg (by omega)])
  have hc : cnt 103 = false:=by unfold cnt;first | rfl | (rw [decide_eq_true_eq];omega) | (rw [decide_eq_false_iff_not];omega)
  rw [e]
  have HK:=Lib.hid (fun W=>counted_any 103 W)
  rw [hc] at HK
  clear e hc
  go_enter Tryd.func25,Tryd.ntmps25
  go_wp2_with (go_at_call 44;with_reducible refine (HK.out _).mono ?_;rintro _ _ ⟨rfl,rfl⟩)
  all_goals refine bodyPost_ret (by simp [results,Tryd.results25,go_sem, *];try rfl) rfl ?_
  all_goals first | exact ⟨rfl,by (repeat' first|(with_reducible first|exact blR _ _|assumption|refine blD ?_|refine blN ?_ _)|((with_reducible first|refine blA ?_ ?_ _|refine blS ?_ ?_ _|refine blT (by assumption) ?_ ?_);focus (go_size;done)))⟩ | (refine ⟨?_,by (repeat' first|(with_reducible first|exact blR _ _|assumption|refine blD ?_|refine blN ?_ _)|((with_reducible first|refine blA ?_ ?_ _|refine blS ?_ ?_ _|refine blT (by assumption) ?_ ?_);focus (go_size;done)))⟩;simp_all)
 by_cases d11 : op = 104
 ·subst d11
  have e : tk 104 0 = (0,0,-1,1,true):=by
   unfold tk
   repeat (first | rw [if_pos (by omega)] | rw [if_neg (by omega)])
  have hc : cnt 104 = false:=by unfold cnt;first | rfl | (rw [decide_eq_true_eq];omega) | (rw [decide_eq_false_iff_not];omega)
  rw [e]
  have HK:=Lib.hid (fun W=>counted_any 104 W)
  rw [hc] at HK
  clear e hc
  go_enter Tryd.func25,Tryd.ntmps25
  go_wp2_with (go_at_call 44;with_reducible refine (HK.out _).mono ?_;rintro _ _ ⟨rfl,rfl⟩)
  all_goals refine bodyPost_ret (by simp [results,Tryd.results25,go_sem, *];try rfl) rfl ?_
  all_goals first | exact ⟨rfl,by (repeat' first|(with_reducible first|exact blR _ _|assumption|refine blD ?_|refine blN ?_ _)|((with_reducible first|refine blA ?_ ?_ _|refine blS ?_ ?_ _|refine blT (by assumption) ?_ ?_);focus (go_size;done)))⟩ | (refine ⟨?_,by (repeat' first|(with_reducible first|exact blR _ _|assumption|refine blD ?_|refine blN ?_ _)|((with_reducible first|refine blA ?_ ?_ _|refine blS ?_ ?_ _|refine blT (by assumption) ?_ ?_);focus (go_size;done)))⟩;simp_all)
 by_cases d12 : op = 21
 ·subst d12
  have e : tk 21 0 = (0,0,0,0,false):=by
   unfold tk
   repeat (first | rw [if_pos (by omega)] | rw [if_neg (by omega)])
  have hc : cnt 21 = false:=by unfold cnt;first | rfl | (rw [decide_eq_true_eq];omega) | (rw [decide_eq_false_iff_not];omega)
  rw [e]
  have HK:=Lib.hid (fun W=>counted_any 21 W)
  rw [hc] at HK
  clear e hc
  go_enter Tryd.func25,Tryd.ntmps25
  go_wp2_with (go_at_call 44;with_reducible refine (HK.out _).mono ?_;rintro _ _ ⟨rfl,rfl⟩)
  all_goals refine bodyPost_ret (by simp [results,Tryd.results25,go_sem, *];try rfl) rfl ?_
  all_goals first | exact ⟨rfl,by (repeat' first|(with_reducible first|exact blR _ _|assumption|refine blD ?_|refine blN ?_ _)|((with_reducible first|refine blA ?_ ?_ _|refine blS ?_ ?_ _|refine blT (by assumption) ?_ ?_);focus (go_size;done)))⟩ | (refine ⟨?_,by (repeat' first|(with_reducible first|exact blR _ _|assumption|refine blD ?_|refine blN ?_ _)|((with_reducible first|refine blA ?_ ?_ _|refine blS ?_ ?_ _|refine blT (by assumption) ?_ ?_);focus (go_size;done)))⟩;simp_all)
 by_cases d13 : op = 23
 ·subst d13
  have e : tk 23 0 = (0,0,0,0,false):=by
   unfold tk
   repeat (first | rw [if_pos (by omega)] | rw [if_neg (by omega)])
  have hc : cnt 23 = false:=by unfold cnt;first | rfl | (rw [decide_eq_true_eq];omega) | (rw [decide_eq_false_iff_not];omega)
  rw [e]
  have HK:=Lib.hid (fun W=>counted_any 23 W)
  rw [hc] at HK
  clear e hc
  go_enter Tryd.func25,Tryd.ntmps25
  go_wp2_with (go_at_call 44;with_reducible refine (HK.out _).mono ?_;rintro _ _ ⟨rfl,rfl⟩)
  all_goals refine bodyPost_ret (by simp [results,Tryd.results25,go_sem, *];try rfl) rfl ?_
  all_goals first | exact ⟨rfl,by (repeat' first|(with_reducible first|exact blR _ _|assumption|refine blD ?_|refine blN ?_ _)|((with_reducible first|refine blA ?_ ?_ _|refine blS ?_ ?_ _|refine blT (by assumption) ?_ ?_);focus (go_size;done)))⟩ | (refine ⟨?_,by (repeat' first|(with_reducible first|exact blR _ _|assumption|refine blD ?_|refine blN ?_ _)|((with_reducible first|refine blA ?_ ?_ _|refine blS ?_ ?_ _|refine blT (by assumption) ?_ ?_);focus (go_size;done)))⟩;simp_all)
 by_cases d14 : op ≤ 0
 ·have tok:=trivial
  have q25 : (op == 25) = false:=by rw [beq_eq_false_iff_ne];omega
  have r25 : (op != 25) = true:=by rw [bne_iff_ne];omega
  have q36 : (op == 36) = false:=by rw [beq_eq_false_iff_ne];omega
  have r36 : (op != 36) = true:=by rw [bne_iff_ne];omega
  have q101 : (op == 101) = false:=by rw [beq_eq_false_iff_ne];omega
  have r101 : (op != 101) = true:=by rw [bne_iff_ne];omega
  have q102 : (op == 102) = false:=by rw [beq_eq_false_iff_ne];omega
  have r102 : (op != 102) = true:=by rw [bne_iff_ne];omega
  have q26 : (op == 26) = false:=by rw [beq_eq_false_iff_ne];omega
  have q27 : (op == 27) = false:=by rw [beq_eq_false_iff_ne];omega
  have q8 : (op == 8) = false:=by rw [beq_eq_false_iff_ne];omega
  have q24 : (op == 24) = false:=by rw [beq_eq_false_iff_ne];omega
  have q28 : (op == 28) = false:=by rw [beq_eq_false_iff_ne];omega
  have q37 : (op == 37) = false:=by rw [beq_eq_false_iff_ne];omega
  have q29 : (op == 29) = false:=by rw [beq_eq_false_iff_ne];omega
  have q22 : (op == 22) = false:=by rw [beq_eq_false_iff_ne];omega
  have q35 : (op == 35) = false:=by rw [beq_eq_false_iff_ne];omega
  have q103 : (op == 103) = false:=by rw [beq_eq_false_iff_ne];omega
  have q104 : (op == 104) = false:=by rw [beq_eq_false_iff_ne];omega
  have e : tk op 0 = (0,0,0,0,false):=by
   unfold tk
   repeat (first | rw [if_pos (by omega)] | rw [if_neg (by omega)])
  have hc : cnt op = false:=by unfold cnt;first | rfl | (rw [decide_eq_true_eq];omega) | (rw [decide_eq_false_iff_not];omega)
  rw [e]
  have HK:=Lib.hid (fun W=>counted_any op W)
  rw [hc] at HK
  clear e hc
  go_enter Tryd.func25,Tryd.ntmps25
  go_wp2_with (go_at_call 44;with_reducible refine (HK.out _).mono ?_;rintro _ _ ⟨rfl,rfl⟩)
  all_goals refine bodyPost_ret (by simp [results,Tryd.results25,go_sem, *];try rfl) rfl ?_
  all_goals first | exact ⟨rfl,by (repeat' first|(with_reducible first|exact blR _ _|assumption|refine blD ?_|refine blN ?_ _)|((with_reducible first|refine blA ?_ ?_ _|refine blS ?_ ?_ _|refine blT (by assumption) ?_ ?_);focus (go_size;done)))⟩ | (refine ⟨?_,by (repeat' first|(with_reducible first|exact blR _ _|assumption|refine blD ?_|refine blN ?_ _)|((with_reducible first|refine blA ?_ ?_ _|refine blS ?_ ?_ _|refine blT (by assumption) ?_ ?_);focus (go_size;done)))⟩;simp_all)
 by_cases d15 : 105 ≤ op
 ·have tok:=trivial
  have q25 : (op == 25) = false:=by rw [beq_eq_false_iff_ne];omega
  have r25 : (op != 25) = true:=by rw [bne_iff_ne];omega
  have q36 : (op == 36) = false:=by rw [beq_eq_false_iff_ne];omega
  have r36 : (op != 36) = true:=by rw [bne_iff_ne];omega
  have q101 : (op == 101) = false:=by rw [beq_eq_false_iff_ne];omega
  have r101 : (op != 101) = true:=by rw [bne_iff_ne];omega
  have q102 : (op == 102) = false:=by rw [beq_eq_false_iff_ne];omega
  have r102 : (op != 102) = true:=by rw [bne_iff_ne];omega
  have q26 : (op == 26) = false:=by rw [beq_eq_false_iff_ne];omega
  have q27 : (op == 27) = false:=by rw [beq_eq_false_iff_ne];omega
  have q8 : (op == 8) = false:=by rw [beq_eq_false_iff_ne];omega
  have q24 : (op == 24) = false:=by rw [beq_eq_false_iff_ne];omega
  have q28 : (op == 28) = false:=by rw [beq_eq_false_iff_ne];omega
  have q37 : (op == 37) = false:=by rw [beq_eq_false_iff_ne];omega
  have q29 : (op == 29) = false:=by rw [beq_eq_false_iff_ne];omega
  have q22 : (op == 22) = false:=by rw [beq_eq_false_iff_ne];omega
  have q35 : (op == 35) = false:=by rw [beq_eq_false_iff_ne];omega
  have q103 : (op == 103) = false:=by rw [beq_eq_false_iff_ne];omega
  have q104 : (op == 104) = false:=by rw [beq_eq_false_iff_ne];omega
  have e : tk op 0 = (0,0,0,0,false):=by
   unfold tk
   repeat (first | rw [if_pos (by omega)] | rw [if_neg (by omega)])
  have hc : cnt op = false:=by unfold cnt;first | rfl | (rw [decide_eq_true_eq];omega) | (rw [decide_eq_false_iff_not];omega)
  rw [e]
  have HK:=Lib.hid (fun W=>counted_any op W)
  rw [hc] at HK
  clear e hc
  go_enter Tryd.func25,Tryd.ntmps25
  go_wp2_with (go_at_call 44;with_reducible refine (HK.out _).mono ?_;rintro _ _ ⟨rfl,rfl⟩)
  all_goals refine bodyPost_ret (by simp [results,Tryd.results25,go_sem, *];try rfl) rfl ?_
  all_goals first | exact ⟨rfl,by (repeat' first|(with_reducible first|exact blR _ _|assumption|refine blD ?_|refine blN ?_ _)|((with_reducible first|refine blA ?_ ?_ _|refine blS ?_ ?_ _|refine blT (by assumption) ?_ ?_);focus (go_size;done)))⟩ | (refine ⟨?_,by (repeat' first|(with_reducible first|exact blR _ _|assumption|refine blD ?_|refine blN ?_ _)|((with_reducible first|refine blA ?_ ?_ _|refine blS ?_ ?_ _|refine blT (by assumption) ?_ ?_);focus (go_size;done)))⟩;simp_all)
 have da : 38 ≤ op:=by omega
 have db : op ≤ 100:=by omega
 have q25 : (op == 25) = false:=by rw [beq_eq_false_iff_ne];omega
 have r25 : (op != 25) = true:=by rw [bne_iff_ne];omega
 have q36 : (op == 36) = false:=by rw [beq_eq_false_iff_ne];omega
 have r36 : (op != 36) = true:=by rw [bne_iff_ne];omega
 have q101 : (op == 101) = false:=by rw [beq_eq_false_iff_ne];omega
 have r101 : (op != 101) = true:=by rw [bne_iff_ne];omega
 have q102 : (op == 102) = false:=by rw [beq_eq_false_iff_ne];omega
 have r102 : (op != 102) = true:=by rw [bne_iff_ne];omega
 have q26 : (op == 26) = false:=by rw [beq_eq_false_iff_ne];omega
 have q27 : (op == 27) = false:=by rw [beq_eq_false_iff_ne];omega
 have q8 : (op == 8) = false:=by rw [beq_eq_false_iff_ne];omega
 have q24 : (op == 24) = false:=by rw [beq_eq_false_iff_ne];omega
 have q28 : (op == 28) = false:=by rw [beq_eq_false_iff_ne];omega
 have q37 : (op == 37) = false:=by rw [beq_eq_false_iff_ne];omega
 have q29 : (op == 29) = false:=by rw [beq_eq_false_iff_ne];omega
 have q22 : (op == 22) = false:=by rw [beq_eq_false_iff_ne];omega
 have q35 : (op == 35) = false:=by rw [beq_eq_false_iff_ne];omega
 have q103 : (op == 103) = false:=by rw [beq_eq_false_iff_ne];omega
 have q104 : (op == 104) = false:=by rw [beq_eq_false_iff_ne];omega
 have e : tk op 0 = (0,0,0,0,false):=by
  unfold tk
  repeat (first | rw [if_pos (by omega)] | rw [if_neg (by omega)])
 have hc : cnt op = false:=by unfold cnt;first | rfl | (rw [decide_eq_true_eq];omega) | (rw [decide_eq_false_iff_not];omega)
 rw [e]
 have HK:=Lib.hid (fun W=>counted_any op W)
 rw [hc] at HK
 clear e hc
 go_enter Tryd.func25,Tryd.ntmps25
 go_wp2_with (go_at_call 44;with_reducible refine (HK.out _).mono ?_;rintro _ _ ⟨rfl,rfl⟩)
 all_goals refine bodyPost_ret (by simp [results,Tryd.results25,go_sem, *];try rfl) rfl ?_
 all_goals first | exact ⟨rfl,by (repeat' first|(with_reducible first|exact blR _ _|assumption|refine blD ?_|refine blN ?_ _)|((with_reducible first|refine blA ?_ ?_ _|refine blS ?_ ?_ _|refine blT (by assumption) ?_ ?_);focus (go_size;done)))⟩ | (refine ⟨?_,by (repeat' first|(with_reducible first|exact blR _ _|assumption|refine blD ?_|refine blN ?_ _)|((with_reducible first|refine blA ?_ ?_ _|refine blS ?_ ?_ _|refine blT (by assumption) ?_ ?_);focus (go_size;done)))⟩;simp_all)
end Go.Proofs.YtnhmplfonkjfoaaDoor



namespace Go.Proofs.YtnhmplfonkjfoaaDoor
open Go.RowKit

def pairs (is : List InsD) : List (Int × Int):=is.map fun i=>(i.op,i.a)
theorem ov_low {B k : Nat} (h : k < B) : ov B k = 0:=if_pos h
theorem ov_up {B k : Nat} (h : B < k) : ov B k = 2:=by unfold ov;rw [if_neg (by omega),if_neg (by omega)]
theorem Stt.made (w : World) (n : Nat) : Stt (w.alloc (.cells (madeCells #[.bool false,.int .i64 0,.int .i64 0] (n * 3)) 60)) (ov w.heap.size) 1 w.heap.size (List.replicate n none):=by
 refine ⟨(madeCells #[.bool false,.int .i64 0,.int .i64 0] (n * 3)).toList,⟨?_,ov_self _⟩,by rw [Array.length_toList,size_madeCells,List.length_replicate],fun r hr=>?_⟩
 ·have:=Bk.new w 60 (madeCells #[.bool false,.int .i64 0,.int .i64 0] (n * 3)).toList
  rwa [Array.toArray_toList] at this
 ·rw [List.length_replicate] at hr
  have e : (List.replicate n (none : Option Way)).getD r none = none:=by rw [List.getD_eq_getElem?_getD,List.getElem?_replicate];split <;> rfl
  rw [e]
  exact ⟨made_at _ _ _ n r 0 hr (by decide),made_at _ _ _ n r 1 hr (by decide),made_at _ _ _ n r 2 hr (by decide)⟩
theorem pairs_length (is : List InsD) : (pairs is).length = is.length:=by simp [pairs]
theorem pairs_drop {is : List InsD} {t : Nat} (h : t < is.length) : (pairs is).drop t = ((ig is t).op,(ig is t).a) :: (pairs is).drop (t + 1):=by
 have e : (pairs is)[t]'(by rw [pairs_length];exact h) = ((ig is t).op,(ig is t).a):=by
  unfold pairs ig
  rw [List.getElem_map,List.getD_eq_getElem?_getD,List.getElem?_eq_getElem h];rfl
 rw [List.drop_eq_getElem_cons (by rw [pairs_length];exact h),e]
theorem pairs_end (is : List InsD) : (pairs is).drop is.length = []:=by rw [← pairs_length];exact List.drop_length
theorem info_state : (Tryd.prog.info? 60).map (fun i=>(i.zero,i.size,i.bytes)) = some (some (.agg #[.bool false,.int .i64 0,.int .i64 0]),3,24):=by kernel_rfl
theorem vGo_end (n i : Nat) (f m : Int) (S : St) : vGo n f [] i S m = if (oB (S.getD n none) == true && (oH (S.getD n none) == 1 && oE (S.getD n none) == f)) = true then (max m 1,0) else (0,2):=by
 unfold vGo
 cases S.getD n none with
 | none=>simp [oB]
 | some x =>
  obtain ⟨x1,x2⟩:=x
  by_cases h1 : x1 = 1 <;> by_cases h2 : x2 = f <;> simp [oB,oH,oE,h1,h2]
def fB (b : Bool) : Int:=if b = true then 1 else 0
def VerPost (is : List InsD) (b : Bool) (w : World) (e : Ending) (w' : World) : Prop:=e = .returned (.tuple #[.int .i64 (verS (pairs is) (fB b)).1,.int .i64 (verS (pairs is) (fB b)).2]) ∧ Below w.heap.size w w'
set_option maxHeartbeats 1000000 in
theorem verify_long (is : List InsD) (v : Value) (b : Bool) (w : World) (h : Cod w v is) (hl : 600 < is.length) : Calls Tryd.prog 14 #[v,.bool b] w (VerPost is b w):=by
 have HR : Hid (verS (pairs is) (fB b) = (0,6)):=Lib.hid (by unfold verS;rw [if_pos (by rw [pairs_length];exact hl)])
 obtain ⟨A,C,rfl,h2,h3⟩:=h
 have hl2 : (600 : Int) < (is.length : Int):=by omega
 clear h3 h2
 go_enter Tryd.func14,Tryd.ntmps14
 go_wp2_with fail
 go_ret2
 exact ⟨by rw [HR.out];rfl,Below.refl _ _⟩
end Go.Proofs.YtnhmplfonkjfoaaDoor



namespace Go.Proofs.YtnhmplfonkjfoaaDoor
open Go.RowKit

def sortR (op : Int) : Int:=if op ≤ 27 then 1 else if op = 28 then 2 else if 30 ≤ op ∧ op ≤ 35 then 3 else if op = 36 then 4 else 5
theorem sortR_kids {op n : Int} (h : kidsB op n = true) : sortR op = sortD op:=by
 unfold kidsB at h
 have h:=(of_decide_eq_true h).1
 unfold arD at h
 unfold sortR sortD
 repeat' split at h
 all_goals (first | exact absurd rfl h | (repeat' split) <;> omega)
theorem bool_ret {x p : Bool} {w : World} (h : p = x) : Ending.returned (.bool x) = .returned (.bool p) ∧ w = w:=by
 subst h;exact ⟨rfl,rfl⟩
set_option maxHeartbeats 4000000 in
theorem rsort_any (op : Int) (w : World) : Calls Tryd.prog 32 #[.int .i64 op] w fun e w'=>e = .returned (.int .i64 (sortR op)) ∧ w = w':=by
 go_enter Tryd.func32,Tryd.ntmps32
 go_wp2
 all_goals go_ret
 all_goals refine int_ret ?_
 all_goals (try simp only [beq_iff_eq,beq_eq_false_iff_ne,decide_eq_true_eq,decide_eq_false_iff_not,ne_eq,Int.not_le] at *)
 all_goals unfold sortR
 all_goals (repeat' split)
 all_goals (first | rfl | omega)
set_option maxHeartbeats 4000000 in
theorem rwants_any (op i : Int) (w : World) : Calls Tryd.prog 33 #[.int .i64 op,.int .i64 i] w fun e w'=>e = .returned (.int .i64 (wantD op i)) ∧ w = w':=by
 go_enter Tryd.func33,Tryd.ntmps33
 go_wp2
 all_goals go_ret
 all_goals refine int_ret ?_
 all_goals (try simp only [beq_iff_eq,beq_eq_false_iff_ne,decide_eq_true_eq,decide_eq_false_iff_not,ne_eq,Int.not_le] at *)
 all_goals unfold wantD
 all_goals (repeat' split)
 all_goals (first | rfl | omega)
set_option maxHeartbeats 4000000 in
theorem rkids_any (op n : Int) (w : World) : Calls Tryd.prog 47 #[.int .i64 op,.int .i64 n] w fun e w'=>e = .returned (.bool (kidsB op n)) ∧ w = w':=by
 go_enter Tryd.func47,Tryd.ntmps47
 go_wp2
 all_goals go_ret
 all_goals refine bool_ret ?_
 all_goals (try simp only [beq_iff_eq,beq_eq_false_iff_ne,decide_eq_true_eq,decide_eq_false_iff_not,ne_eq,Int.not_le] at *)
 all_goals unfold kidsB arD
 all_goals (repeat' split)
 all_goals (first | omega | (rw [Bool.eq_iff_iff];simp;done) | (rw [Bool.eq_iff_iff];simp;omega))
end Go.Proofs.YtnhmplfonkjfoaaDoor



namespace Go.Proofs.YtnhmplfonkjfoaaDoor
open Go.RowKit

open Classical in
set_option maxHeartbeats 2000000 in
theorem twice10_any (is : List InsD) (v : Value) (w : World) (h : Cod w v is) (v2 : Value) (n : Nat) (ts : Nat → Nat) (h2 : Lsn 1 (fun r=>[.int .i64 (ts r)]) w v2 n) (hat : ∀ r,r < n → ts r < is.length) :
  Calls Tryd.prog 34 #[v,v2] w fun e w'=>e = .returned (.bool (twF (fun r=>(ig is (ts r)).tx) n)) ∧ Below w.heap.size w w':=by
 have HN:=Lib.hid h
 have HT:=Lib.hid h2
 have HA:=Lib.hid hat
 obtain ⟨A0,C0,rfl,hl0,_⟩:=h
 obtain ⟨A,C,rfl,hl1,_⟩:=h2
 obtain ⟨f,hf⟩ : ∃ f,f = fun r=>(ig is (ts r)).tx:=⟨_,rfl⟩
 have HF:=Lib.hid hf
 rw [← hf]
 obtain ⟨R,hR⟩ : ∃ R,R = twF f n:=⟨_,rfl⟩
 have HR:=Lib.hid hR
 rw [← hR]
 clear hR hf hat
 unfold maxLen at hl1 hl0
 go_enter Tryd.func34,Tryd.ntmps34
 go_wp2_with fail
 go_loopg [5] n (fun k i wr=>∃ t : Nat,k + t = n ∧ i = .int .i64 t ∧ Hid (∀ i,i < t → ∀ k,k < i → f i ≠ f k) ∧ Hid (Below w.heap.size w wr))
 case atStart=>exact ⟨0,by omega,rfl,Lib.hid (fun r hr=>absurd hr (Nat.not_lt_zero _)),Lib.hid (Below.refl _ _)⟩
 case round =>
  obtain ⟨t,hk,rfl,HD,HB⟩:=hrel
  have HK:=Lib.hid hk
  have htn : t ≤ n:=by omega
  clear hk
  by_cases hlt : t < n
  ·go_wp2_with fail
   obtain ⟨gk0,hgk0⟩ : ∃ g,g = gk:=⟨_,rfl⟩
   subst hgk0
   obtain ⟨wr0,hwr0⟩ : ∃ g,g = wr:=⟨_,rfl⟩
   subst hwr0
   go_loopg [6] t (fun k2 j wx=>∃ u : Nat,k2 + u = t ∧ j = .int .i64 u ∧ Hid (∀ k,k < u → f t ≠ f k) ∧ Hid (Below w.heap.size w wx))
   case atStart=>exact ⟨0,by omega,rfl,Lib.hid (fun r hr=>absurd hr (Nat.not_lt_zero _)),HB⟩
   case round =>
    obtain ⟨u,hk,rfl,HU,HB2⟩:=hrel
    have HKK:=Lib.hid hk
    have hun : u ≤ t:=by omega
    clear hk
    by_cases hlu : u < t
    ·obtain ⟨b1,o1,rfl,a1⟩:=(HT.out.below HB2.out).at hlt
     obtain ⟨b1',o1',e9,a2⟩:=(HT.out.below HB2.out).at (show u < n by omega)
     injection e9 with e9
     injection e9 with e8 e9
     subst e8 e9
     have x1:=a1.one
     have y1:=a2.one
     rw [Nat.mul_one] at x1 y1
     obtain ⟨X,hX⟩ : ∃ X,X = ts t:=⟨_,rfl⟩
     have hXl : X < is.length:=by rw [hX];exact HA.out t hlt
     obtain ⟨Y,hY⟩ : ∃ Y,Y = ts u:=⟨_,rfl⟩
     have hYl : Y < is.length:=by rw [hY];exact HA.out u (by omega)
     have HX : Hid (f t = (ig is X).tx ∧ f u = (ig is Y).tx):=Lib.hid ⟨by rw [HF.out,hX],by rw [HF.out,hY]⟩
     rw [← hX] at x1
     rw [← hY] at y1
     clear a1 a2 hX hY
     obtain ⟨b2,o2,rfl,a3⟩:=(HN.out.below HB2.out).at hXl
     obtain ⟨b2',o2',e9,a4⟩:=(HN.out.below HB2.out).at hYl
     injection e9 with e9
     injection e9 with e8 e9
     subst e8 e9
     obtain ⟨-,-,z3,-⟩:=a3.ins
     obtain ⟨-,-,z4,-⟩:=a4.ins
     rw [← HX.out.1] at z3
     rw [← HX.out.2] at z4
     clear a3 a4
     obtain ⟨s1,hs1⟩ : ∃ s,s = f t:=⟨_,rfl⟩
     obtain ⟨s2,hs2⟩ : ∃ s,s = f u:=⟨_,rfl⟩
     rw [← hs1] at z3
     rw [← hs2] at z4
     have HS : Hid (s1 = f t ∧ s2 = f u):=Lib.hid ⟨hs1,hs2⟩
     clear hs1 hs2
     by_cases he : s1 = s2
     ·subst he
      go_wp2_with fail
      go_quiet (fail)
      go_wp2_with fail
      go_ret
      refine ⟨ret_bool ?_,below_drewN HB2.out _⟩
      rw [HR.out,twF_yes hlt hlu (HS.out.1.symm.trans HS.out.2)]
     ·have hne : (s1.toList == s2.toList) = false:=(Lib.bytes_beq_false_iff s1 s2).2 he
      go_wp2_with fail
      go_quiet (fail)
      go_wp2_with fail
      go_roundg (gk - 1)
      case measure=>have:=HKK.out;omega
      case rel=>exact ⟨u + 1,by have:=HKK.out;omega,by go_num,Lib.hid (fun k hk=>by
       by_cases e : k = u
       ·subst e;rw [← HS.out.1,← HS.out.2];exact he
       ·exact HU.out k (by omega)),Lib.hid (below_drewN HB2.out _)⟩
    ·obtain rfl : u = t:=by omega
     go_wp2_with fail
     go_roundg (gk0 - 1)
     case measure=>have:=HK.out;omega
     case rel=>exact ⟨u + 1,by have:=HK.out;omega,by go_num,Lib.hid (fun i hi k hk=>by
       by_cases e : i = u
       ·subst e;exact HU.out k hk
       ·exact HD.out i (by omega) k hk),HB2⟩
  ·obtain rfl : t = n:=by omega
   go_wp2_with fail
   go_ret
   refine ⟨ret_bool ?_,HB.out⟩
   rw [HR.out,twF_no HD.out]
end Go.Proofs.YtnhmplfonkjfoaaDoor



namespace Go.Proofs.YtnhmplfonkjfoaaDoor
open Go.RowKit

section
variable {w0 : World} {g gF : Nat} {f : Int} {o o' : Nat → Nat} {wr w' : World} {vs : List Value} {W : Wy}
end
section
variable {n i : Nat} {f op a m : Int} {r : List (Int × Int)} {W : Wy} {x : Way}
end
theorem Wym.val {w0 : World} {g gF : Nat} {f : Int} {o : Nat → Nat} {wr : World} {vs : List Value} {W : Wy} (h : Wym w0 g gF f o wr vs W) {k : Nat} (hk : k < W.length) : vs[k]? = some (vs.getD k undef):=by
 rw [List.getElem?_eq_getElem (by rw [h.len];exact hk),List.getD_eq_getElem?_getD,List.getElem?_eq_getElem (by rw [h.len];exact hk)];rfl
end Go.Proofs.YtnhmplfonkjfoaaDoor



namespace Go.Proofs.YtnhmplfonkjfoaaDoor
open Go.Lib

instance (c : Nat) : Decidable (chrP c):=by unfold chrP;infer_instance
theorem txtF_more : ∀ (f : Nat) (l : List UInt8),l.length ≤ f → ztxtF (f + 1) l = ztxtF f l
 | 0,l,h=>by
  have : l = []:=List.length_eq_zero_iff.1 (by omega)
  subst this;rfl
 | f + 1,l,h=>by
  show (if l = [] then true else if (oneL l).2.2 = true ∧ chrP (oneL l).1 then ztxtF (f + 1) (l.drop (oneL l).2.1) else false) = (if l = [] then true else if (oneL l).2.2 = true ∧ chrP (oneL l).1 then ztxtF f (l.drop (oneL l).2.1) else false)
  by_cases e : l = []
  ·rw [if_pos e,if_pos e]
  ·rw [if_neg e,if_neg e]
   by_cases hk : (oneL l).2.2 = true ∧ chrP (oneL l).1
   ·rw [if_pos hk,if_pos hk]
    have:=oneN_pos (n:=l.length) hk.1
    refine txtF_more f _ ?_
    rw [List.length_drop]
    have hl : 0 < l.length:=List.length_pos_iff.2 e
    unfold oneL
    omega
   ·rw [if_neg hk,if_neg hk]
theorem txtF_eq {l : List UInt8} : ∀ f,l.length ≤ f → ztxtF f l = ztxt l
 | 0,h=>by
  have : l.length = 0:=by omega
  unfold ztxt;rw [this]
 | f + 1,h=>by
  by_cases e : l.length = f + 1
  ·unfold ztxt;rw [e]
  ·rw [txtF_more f l (by omega),txtF_eq f (by omega)]
end Go.Proofs.YtnhmplfonkjfoaaDoor



namespace Go.Proofs.YtnhmplfonkjfoaaDoor

def Small (n : Nat) : Prop:=True → n < 10 ^ 1000
theorem getD_lt (l : List Int) (k : Nat) (h : k < l.length) : l.getD k 0 = l[k]:=by
 rw [List.getD_eq_getElem?_getD,List.getElem?_eq_getElem h];rfl
theorem ten_mono {a b : Nat} (h : a ≤ b) : (10 : Int) ^ a ≤ 10 ^ b:=by
 have:=Nat.pow_le_pow_right (n:=10) (by decide) h
 exact_mod_cast this
theorem dval_append (a b : List Int) : dval (a ++ b) = dval a + 10 ^ a.length * dval b:=by
 induction a with
 | nil=>simp [dval]
 | cons d r ih =>
  simp only [List.cons_append,dval,ih,List.length_cons,Int.pow_succ]
  rw [Int.mul_add,Int.mul_comm (10 ^ r.length) 10,Int.mul_assoc];omega
theorem dval_snoc (a : List Int) (x : Int) : dval (a ++ [x]) = dval a + 10 ^ a.length * x:=by
 rw [dval_append];simp [dval]
theorem ten_pos (k : Nat) : (0 : Int) < 10 ^ k:=Int.pow_pos (by decide)
theorem Digs.snoc {a : List Int} {x : Int} (h : Digs a) (h0 : 0 ≤ x) (h1 : x ≤ 9) : Digs (a ++ [x]):=by
 intro d hd
 rcases List.mem_append.1 hd with hd | hd
 ·exact h d hd
 ·rw [List.mem_singleton.1 hd];exact ⟨h0,h1⟩
theorem Digs.get {a : List Int} (h : Digs a) (k : Nat) : 0 ≤ a.getD k 0 ∧ a.getD k 0 ≤ 9:=by
 rw [List.getD_eq_getElem?_getD]
 rcases hk : a[k]? with _ | x
 ·simp
 ·exact h x (List.mem_of_getElem? hk)
theorem dval_bd {a : List Int} (h : Digs a) : 0 ≤ dval a ∧ dval a < 10 ^ a.length:=by
 induction a with
 | nil=>simp [dval]
 | cons d r ih =>
  have h1:=ih fun x hx=>h x (List.mem_cons_of_mem _ hx)
  have h2:=h d List.mem_cons_self
  simp only [dval,List.length_cons,Int.pow_succ]
  omega
theorem take_snoc_int (l : List Int) (k : Nat) (h : k < l.length) : l.take (k + 1) = l.take k ++ [l.getD k 0]:=by
 rw [List.take_succ_eq_append_getElem h,getD_lt _ _ h]
theorem dval_take_succ (l : List Int) (k : Nat) (h : k < l.length) : dval (l.take (k + 1)) = dval (l.take k) + 10 ^ k * l.getD k 0:=by
 rw [take_snoc_int l k h,dval_snoc,List.length_take,Nat.min_eq_left (by omega)]
theorem dval_drop (l : List Int) (k : Nat) (h : k < l.length) : dval (l.drop k) = l.getD k 0 + 10 * dval (l.drop (k + 1)):=by
 rw [List.drop_eq_getElem_cons h,getD_lt _ _ h];rfl
theorem IsDg.len_le {l : List Int} {n k : Nat} (h : IsDg l n) (hn : n < 10 ^ k) : l.length ≤ k:=by
 obtain ⟨hd,ht,hv⟩:=h
 rcases Nat.lt_or_ge k l.length with hk | hk
 ·exfalso
  have hne : l ≠ []:=by intro e;subst e;simp at hk
  obtain ⟨i,x,rfl⟩ : ∃ i x,l = i ++ [x]:=⟨l.dropLast,l.getLast hne,(List.dropLast_concat_getLast hne).symm⟩
  have hx:=hd x (by simp)
  have hx0 : x ≠ 0:=by intro e;subst e;exact ht (by simp)
  have hb:=dval_bd (a:=i) fun d hd'=>hd d (by simp [hd'])
  rw [dval_snoc] at hv
  simp only [List.length_append,List.length_cons,List.length_nil] at hk
  have hp : (10 : Int) ^ k ≤ 10 ^ i.length:=ten_mono (by omega)
  have hm : (10 : Int) ^ i.length * 1 ≤ 10 ^ i.length * x:=Int.mul_le_mul_of_nonneg_left (by omega) (Int.le_of_lt (ten_pos _))
  have hn' : (n : Int) < 10 ^ k:=by exact_mod_cast hn
  omega
 ·exact hk
theorem IsDg.lt_of_len {l : List Int} {n k : Nat} (h : IsDg l n) (hk : l.length ≤ k) : n < 10 ^ k:=by
 obtain ⟨hd,_,hv⟩:=h
 have hb:=dval_bd hd
 have hp : (10 : Int) ^ l.length ≤ 10 ^ k:=ten_mono hk
 have : (n : Int) < 10 ^ k:=by omega
 exact_mod_cast this
theorem IsDg.zero_iff {l : List Int} {n : Nat} (h : IsDg l n) : l.length = 0 ↔ n = 0:=by
 constructor
 ·intro h0
  have:=h.lt_of_len (k:=0) (by omega)
  simpa using this
 ·intro h0;subst h0
  have:=h.len_le (k:=0) (by simp)
  omega
theorem IsDg.get {l : List Int} {n : Nat} (h : IsDg l n) (k : Nat) : 0 ≤ l.getD k 0 ∧ l.getD k 0 ≤ 9:=h.1.get k
theorem dval_digit {l : List Int} (h : Digs l) (k : Nat) (hk : k < l.length) : l.getD k 0 = dval l / 10 ^ k % 10:=by
 have e:=dval_append (l.take k) (l.drop k)
 rw [List.take_append_drop,List.length_take,Nat.min_eq_left (by omega),dval_drop l k hk] at e
 have hb:=dval_bd (h.take k)
 rw [List.length_take,Nat.min_eq_left (by omega)] at hb
 have hp:=ten_pos k
 have hg:=h.get k
 have : dval l / 10 ^ k = l.getD k 0 + 10 * dval (l.drop (k + 1)):=by
  rw [e,Int.add_mul_ediv_left _ _ (by omega),Int.ediv_eq_zero_of_lt hb.1 hb.2,Int.zero_add]
 rw [this];omega
theorem IsDg.le_of_ne {l : List Int} {n : Nat} (h : IsDg l n) (hne : l ≠ []) : 10 ^ (l.length - 1) ≤ n:=by
 rcases Nat.lt_or_ge n (10 ^ (l.length - 1)) with hlt | hge
 ·have:=h.len_le hlt
  have : l.length ≠ 0:=fun e=>hne (List.length_eq_zero_iff.1 e)
  omega
 ·exact hge
theorem top_of_val {l : List Int} (hd : Digs l) (h : l = [] ∨ (10 : Int) ^ (l.length - 1) ≤ dval l) : Top l:=by
 rcases h with rfl | h
 ·simp [Top]
 ·by_cases hne : l = []
  ·subst hne;simp [Top]
  ·obtain ⟨i,x,rfl⟩ : ∃ i x,l = i ++ [x]:=⟨l.dropLast,l.getLast hne,(List.dropLast_concat_getLast hne).symm⟩
   have hb:=dval_bd (a:=i) fun d hd'=>hd d (by simp [hd'])
   rw [dval_snoc] at h
   simp only [List.length_append,List.length_cons,List.length_nil,Nat.add_sub_cancel] at h
   unfold Top
   intro e
   have hx : x = 0:=by simpa using e
   subst hx
   omega
theorem carry_step (P s : Int) : P * (s % 10) + P * 10 * (s / 10) = P * s:=by
 rw [Int.mul_assoc,← Int.mul_add,Int.emod_add_mul_ediv]
end Go.Proofs.YtnhmplfonkjfoaaDoor



namespace Go.Proofs.YtnhmplfonkjfoaaDoor
open Go.RowKit

set_option maxHeartbeats 400000 in
theorem letter_any (c : UInt8) (w : World) : Calls Tryd.prog 60 #[.int .u8 c.toNat] w fun e w'=>e = .returned (.bool (ltr c)) ∧ w = w':=by
 have hc:=UInt8.toNat_lt c
 go_enter Tryd.func60,Tryd.ntmps60
 go_wp2
 all_goals go_ret
 all_goals refine ⟨ret_bool ?_,rfl⟩
 all_goals rw [Bool.eq_iff_iff]
 all_goals simp [ltr]
 all_goals (first | done | omega | (simp_all;done) | (simp_all;omega))
set_option maxHeartbeats 400000 in
theorem digit_any (c : UInt8) (w : World) : Calls Tryd.prog 62 #[.int .u8 c.toNat] w fun e w'=>e = .returned (.bool (dgt c)) ∧ w = w':=by
 have hc:=UInt8.toNat_lt c
 go_enter Tryd.func62,Tryd.ntmps62
 go_wp2
 all_goals go_ret
 all_goals refine ⟨ret_bool ?_,rfl⟩
 all_goals rw [Bool.eq_iff_iff]
 all_goals simp [dgt]
 all_goals (first | done | omega | (simp_all;done) | (simp_all;omega))
set_option maxHeartbeats 1000000 in
theorem rword_any (l : List UInt8) (w : World) : Calls Tryd.prog 61 #[.string ⟨l.toArray⟩] w fun e w'=>e = .returned (.bool (words.contains l)) ∧ w = w':=by
 obtain ⟨z,hz⟩ : ∃ z,z = words.contains l:=⟨_,rfl⟩
 rw [← hz]
 have HZ:=Far.mk hz
 clear hz
 go_enter Tryd.func61,Tryd.ntmps61
 go_wp2
 all_goals go_ret
 all_goals refine ⟨ret_bool ?_,rfl⟩
 all_goals rw [HZ.out]
 all_goals clear HZ
 all_goals simp_all [words,List.contains_cons]
theorem bytes_at {l : List UInt8} {t : Nat} (hlt : t < l.length) : t < (⟨l.toArray⟩ : ByteArray).size ∧ ∀ h : t < (⟨l.toArray⟩ : ByteArray).size,(⟨l.toArray⟩ : ByteArray)[t] = l.getD t 0:=by
 refine ⟨by show t < l.toArray.size;simpa using hlt,fun _=>?_⟩
 rw [List.getD_eq_getElem?_getD,List.getElem?_eq_getElem hlt];rfl
set_option maxHeartbeats 1000000 in
theorem rname4_any (l : List UInt8) (hl : l.length ≤ 9223372036854775807) (w : World) : Calls Tryd.prog 51 #[.string ⟨l.toArray⟩] w fun e w'=>e = .returned (.bool (nam l)) ∧ w = w':=by
 have HW:=Lib.hid (rword_any l w)
 by_cases h1 : l = []
 ·have HE:=Lib.hid (name_bad (.inl h1))
  subst h1
  clear hl HW
  go_enter Tryd.func51,Tryd.ntmps51
  go_wp2_with fail
  go_ret
  exact ⟨rfl,rfl⟩
 have e1 : l.isEmpty = false:=by simpa using h1
 by_cases h2 : 64 < l.length
 ·have HE:=Lib.hid (name_bad (.inr (.inl h2)))
  have h2' : 64 < (l.length : Int):=by omega
  clear HW h2
  go_enter Tryd.func51,Tryd.ntmps51
  go_wp2_with fail
  go_ret
  exact ⟨ret_bool HE.out.symm,rfl⟩
 have h2' : ¬ 64 < (l.length : Int):=by omega
 have hp : 0 < l.length:=List.length_pos_iff.2 h1
 obtain ⟨g1,g2⟩:=bytes_at hp
 have hg : l[0]'hp = l.getD 0 0:=by rw [List.getD_eq_getElem?_getD,List.getElem?_eq_getElem hp];rfl
 have HL:=fun W=>letter_any (l.getD 0 0) W
 rw [← g2 g1] at HL
 obtain ⟨y,hy⟩ : ∃ y,y = ltr (l.getD 0 0):=⟨_,rfl⟩
 have HLT : Hid (∀ W,Calls Tryd.prog 60 #[.int .u8 ((⟨l.toArray⟩ : ByteArray)[0]'g1).toNat] W fun e w'=>e = .returned (.bool y) ∧ W = w'):=Lib.hid (fun W=>by rw [hy,← g2 g1];exact HL W)
 have HY:=Lib.hid hy
 clear HL g2 hy hg
 obtain ⟨z,hz⟩ : ∃ z,z = words.contains l:=⟨_,rfl⟩
 rw [← hz] at HW
 have HZ:=Lib.hid hz
 have H1:=Lib.hid h1
 have H2:=Lib.hid h2
 clear hz h2
 cases y with
 | false =>
  have HE : Hid (nam l = false):=Lib.hid (name_at hp HY.out.symm (.inl rfl))
  go_enter Tryd.func51,Tryd.ntmps51
  go_wp2_with fail
  refine (HLT.out _).mono ?_
  rintro _ _ ⟨rfl,rfl⟩
  go_wp2_with fail
  go_ret
  exact ⟨ret_bool HE.out.symm,rfl⟩
 | true =>
  cases z with
  | true =>
   have HE:=Lib.hid (name_bad (.inr (.inr HZ.out.symm)))
   go_enter Tryd.func51,Tryd.ntmps51
   go_wp2_with fail
   refine (HLT.out _).mono ?_
   rintro _ _ ⟨rfl,rfl⟩
   go_wp2_with fail
   refine HW.out.mono ?_
   rintro _ _ ⟨rfl,rfl⟩
   go_wp2_with fail
   go_ret
   exact ⟨ret_bool HE.out.symm,rfl⟩
  | false =>
   go_enter Tryd.func51,Tryd.ntmps51
   go_wp2_with fail
   refine (HLT.out _).mono ?_
   rintro _ _ ⟨rfl,rfl⟩
   go_wp2_with fail
   refine HW.out.mono ?_
   rintro _ _ ⟨rfl,rfl⟩
   go_wp2_with fail
   go_loopg [3] (l.length - 1) (fun k i wr=>∃ t : Nat,k + t = l.length ∧ 1 ≤ t ∧ i = .int .i64 t ∧ Hid (∀ k,k < t → ltr (l.getD k 0) = true ∨ (k ≠ 0 ∧ dgt (l.getD k 0) = true)) ∧ w = wr)
   case atStart =>
    refine ⟨1,by omega,by omega,rfl,Lib.hid (fun k hk=>?_),rfl⟩
    obtain rfl : k = 0:=by omega
    exact .inl HY.out.symm
   case round =>
    obtain ⟨t,hk,ht1,rfl,HA,rfl⟩:=hrel
    have HK:=Lib.hid hk
    have htn : t ≤ l.length:=by omega
    clear hk
    by_cases hlt : t < l.length
    ·obtain ⟨g3,g4⟩:=bytes_at hlt
     have hg : l[t]'hlt = l.getD t 0:=by rw [List.getD_eq_getElem?_getD,List.getElem?_eq_getElem hlt];rfl
     obtain ⟨c,hc⟩ : ∃ c,c = l.getD t 0:=⟨_,rfl⟩
     have HL1:=Lib.hid (letter_any c w)
     have HD1:=Lib.hid (digit_any c w)
     obtain ⟨yl,hyl⟩ : ∃ y,y = ltr c:=⟨_,rfl⟩
     obtain ⟨yd,hyd⟩ : ∃ y,y = dgt c:=⟨_,rfl⟩
     rw [← hyl] at HL1
     rw [← hyd] at HD1
     have HYL : Hid (ltr (l.getD t 0) = yl):=Lib.hid (by rw [← hc,hyl])
     have HYD : Hid (dgt (l.getD t 0) = yd):=Lib.hid (by rw [← hc,hyd])
     have hcc : (⟨l.toArray⟩ : ByteArray)[t] = c:=by rw [hc];exact g4 g3
     clear g4 hg hyl hyd hc
     cases yl with
     | true =>
      go_wp2_with fail
      refine HL1.out.mono ?_
      rintro _ _ ⟨rfl,rfl⟩
      go_wp2_with fail
      go_roundg (gk - 1)
      case measure=>have:=HK.out;omega
      case rel=>exact ⟨t + 1,by have:=HK.out;omega,by omega,by go_num,Lib.hid (fun k hk=>by
       by_cases e : k = t
       ·subst e;exact .inl HYL.out
       ·exact HA.out k (by omega)),rfl⟩
     | false =>
      cases yd with
      | true =>
       go_wp2_with fail
       refine HL1.out.mono ?_
       rintro _ _ ⟨rfl,rfl⟩
       go_wp2_with fail
       refine HD1.out.mono ?_
       rintro _ _ ⟨rfl,rfl⟩
       go_wp2_with fail
       go_roundg (gk - 1)
       case measure=>have:=HK.out;omega
       case rel=>exact ⟨t + 1,by have:=HK.out;omega,by omega,by go_num,Lib.hid (fun k hk=>by
        by_cases e : k = t
        ·subst e;exact .inr ⟨by omega,HYD.out⟩
        ·exact HA.out k (by omega)),rfl⟩
      | false =>
       have HE : Hid (nam l = false):=Lib.hid (name_at hlt HYL.out (.inr HYD.out))
       go_wp2_with fail
       refine HL1.out.mono ?_
       rintro _ _ ⟨rfl,rfl⟩
       go_wp2_with fail
       refine HD1.out.mono ?_
       rintro _ _ ⟨rfl,rfl⟩
       go_wp2_with fail
       go_ret
       exact ⟨ret_bool HE.out.symm,rfl⟩
    ·have HE : Hid (nam l = true):=Lib.hid (name_ok H1.out (by have:=H2.out;omega) HZ.out.symm (fun k hk=>HA.out k (by omega)))
     go_wp2_with fail
     go_ret
     exact ⟨ret_bool HE.out.symm,rfl⟩
set_option maxHeartbeats 400000 in
theorem ris_any (d : Int) (w : World) : Calls Tryd.prog 50 #[.int .i64 d] w fun e w'=>e = .returned (.bool (dayB d)) ∧ w = w':=by
 go_enter Tryd.func50,Tryd.ntmps50
 go_wp2
 all_goals go_ret
 all_goals refine ⟨ret_bool ?_,rfl⟩
 all_goals rw [Bool.eq_iff_iff]
 all_goals simp [dayB]
 all_goals (first | done | omega | (simp_all;done) | (simp_all;omega))
end Go.Proofs.YtnhmplfonkjfoaaDoor



namespace Go.Proofs.YtnhmplfonkjfoaaDoor
open Go.RowKit

def RetDg (n : Nat) (w : World) (e : Ending) (w' : World) : Prop:=∃ v,e = .returned v ∧ Dg w' v n ∧ Below w.heap.size w w'

section
variable {w w' : World} {A : Option Addr} {xs : List Int} {v : Value} {n B : Nat}
theorem IsSl.of_own {base : Nat} (h : w.ownsRow base 3 1 v xs.length (xs.map (Value.int .i64))) : IsSl w v xs:=by
 rcases h.2 with ⟨rfl,hn⟩ | ⟨g,cap,cur,rfl,hg,hh,r1,r2,r3,r4⟩
 ·have : xs = []:=List.length_eq_zero_iff.1 hn
  subst this
  exact ⟨none,0,rfl,Nat.le_refl _,fun hne=>absurd rfl hne⟩
 ·refine ⟨some ⟨g,0,none⟩,cap,rfl,r1,fun hne=>⟨g,0,cur.toList,rfl,by unfold Bk;simpa using hh,fun j hj=>?_⟩⟩
  have hu : (xs.map (Value.int .i64))[j]? = some (.int .i64 (xs.getD j 0)):=by
   rw [List.getElem?_map,List.getElem?_eq_getElem hj,getD_lt _ _ hj];rfl
  rw [← r4,List.getElem?_take_of_lt (by omega)] at hu
  rw [Nat.zero_add];exact hu
end

theorem Dg.away {w : World} {v : Value} {n B b : Nat} (h : Dg w v n) (hn : New B v) (hb : b < B) (i : Nat) (u : Value) : Dg (w.setCell ⟨b,i,none⟩ u) v n:=by
 obtain ⟨xs,⟨A,c,e,hc,hs⟩,hd⟩:=h
 refine ⟨xs,⟨A,c,e,hc,fun hne=>?_⟩,hd⟩
 obtain ⟨g,o,cs,e2,hg,hc2⟩:=hs hne
 have:=hn g o none xs.length c (by rw [e,e2])
 exact ⟨g,o,cs,e2,hg.far (by show g ≠ b;omega) u,hc2⟩
theorem info_int : (Tryd.prog.info? 3).map (fun i=>(i.zero,i.size,i.bytes)) = some (some (.int .i64 0),1,8):=by kernel_rfl
theorem wpList_push {w : World} {ops : Array Oper} {rest : List Oper} {o : Oper} {a : Act} {Q : Exit → Act → World → Prop} (hgd : o.guard = none) (s x : Operand)
  (ho : o.op = .call { callee:=.builtin .append,args:=#[s,x],argTypes:=#[74,74] })
  (base : Nat) (v : Value) (ds : List Int) (hs : a.eval s = v) (hown : w.ownsRow base 3 1 v ds.length (ds.map (Value.int .i64)))
  (b : Nat) (d : Int) (hx : a.eval x = .slice (some ⟨b,0,none⟩) 1 1) (hd : w.cell? ⟨b,0,none⟩ = some (.int .i64 d)) (hlen : ds.length ≤ 2000000) (hbase : base ≤ w.heap.size)
  (h : ∀ v' w',w'.ownsRow base 3 1 v' (ds ++ [d]).length ((ds ++ [d]).map (Value.int .i64)) → w.grownBy w' v.ownBlock → wpList Tryd.prog ops Q rest (a.put o.dst v') w') : wpList Tryd.prog ops Q (o :: rest) a w:=by
 obtain ⟨i0,hi0,hz0,hz1,hz2⟩:=info_parts info_int
 refine wpList_append_own w hgd s x 74 ho base 3 i0 (.int .i64 0) 1 8 Tryd.underlying74 hi0 hz0 hz1 hz2 rfl (by decide) v ds.length _ hs hown ⟨b,0,none⟩ 1 1 [.int .i64 d] hx rfl ?_ ?_ (by unfold maxLen;omega) (by omega) hbase ?_
 ·intro j u hj
  match j with
  | 0=>simp at hj;subst hj;exact hd
  | j + 1=>simp at hj
 ·intro u hu
  rw [List.mem_singleton.1 hu];rfl
 ·intro v' w' h1 h2 _
  refine h v' w' ?_ h2
  rw [List.length_append,List.map_append]
  exact h1
theorem below_push {a w w' : World} {B : Nat} {E : TypeId} {v : Value} {n : Nat} {xs : List Value} (h : Below B a w) (hown : w.ownsRow B E 1 v n xs) (hg : w.grownBy w' v.ownBlock) (hB : B ≤ w.heap.size) : Below B a w' :=
 h.grown hg hB fun k hk=>(hown.lt k hk).1
end Go.Proofs.YtnhmplfonkjfoaaDoor



namespace Go.Proofs.YtnhmplfonkjfoaaDoor
open Go.RowKit

theorem pow_big {n : Nat} (h : Small n) {l : List Int} (hl : IsDg l n) : l.length ≤ 1000:=hl.len_le (h trivial)
set_option maxHeartbeats 1000000 in
theorem twice_any (N : Nat) (b0 : Int) (hb0 : 0 ≤ b0) (hb1 : b0 ≤ 1) (v : Value) (w : World) (hv : Dg w v N) (hN : Small N) :
  Calls Tryd.prog 79 #[v,.int .i64 b0] w (RetDg (2 * N + b0.toNat) w):=by
 obtain ⟨xs,⟨A,c,rfl,hc,hs⟩,hd⟩:=hv
 have hlen:=pow_big hN hd
 have HD:=Lib.hid hd
 have HS:=Lib.hid hs
 clear hd hs hN
 go_enter Tryd.func79,Tryd.ntmps79
 go_wp2_with fail
 go_loopg [1,5,6] xs.length (fun k b out i wr=>∃ (n : Nat) (bb : Int) (ds : List Int),k + n = xs.length ∧ i = .int .i64 n ∧ b = .int .i64 bb ∧ 0 ≤ bb ∧ bb ≤ 1 ∧
  wr.ownsRow w.heap.size 3 1 out ds.length (ds.map (Value.int .i64)) ∧ ds.length = n ∧ Digs ds ∧ dval ds + 10 ^ n * bb = 2 * dval (xs.take n) + b0 ∧ Below w.heap.size w wr)
 case atStart =>
  exact ⟨0,b0,[],by omega,rfl,rfl,hb0,hb1,World.ownsRow_nil _ _ _ _,rfl,Digs.nil,by simp [dval],Below.refl _ _⟩
 case round =>
  obtain ⟨n,bb,ds,hk,rfl,rfl,hbb0,hbb1,hown,hdl,hdd,hval,hbel⟩:=hrel
  have HK:=Lib.hid hk
  have HL:=Lib.hid hdl
  have HDD:=Lib.hid hdd
  have HV:=Lib.hid hval
  have hn : n ≤ xs.length:=by omega
  have hwr:=hbel.size
  clear hk hdl hdd hval
  by_cases hlt : n < xs.length
  ·obtain ⟨g,o,rfl,hg,hcell⟩:=HS.out.at_ hlt
   have hx:=HD.out.get n
   have hcell2:=(hbel.cell (p:=⟨g,o + n,none⟩) hg).trans hcell
   obtain ⟨d,hd⟩ : ∃ d,d = xs.getD n 0:=⟨_,rfl⟩
   rw [← hd] at hcell2 hx
   obtain ⟨hx0,hx9⟩:=hx
   have HE:=Lib.hid hd
   clear hd hcell
   go_wp2_with (at_builtin;refine wpList_push rfl (.tmp 21) (.tmp 24) rfl w.heap.size u5 ds rfl (hown.alloc _) wr.heap.size ((2 * d + bb) % 10) rfl ?hc ?hl ?hb ?_;rotate_left 3;intro v1 w1 hown1 hg1)
   case hc=>simp [go_sem]
   case hl=>have:=HL.out;omega
   case hb=>go_size
   go_roundg (gk - 1)
   case measure=>have:=HK.out;omega
   case rel =>
    refine ⟨n + 1,(2 * d + bb) / 10,ds ++ [(2 * d + bb) % 10],by have:=HK.out;omega,by go_num,rfl,by omega,by omega,hown1,by rw [List.length_append,HL.out];rfl,HDD.out.snoc (by omega) (by omega), ?_,below_push (hbel.alloc (by go_size) _) (hown.alloc _) hg1 (by go_size)⟩
    rw [dval_snoc,HL.out,dval_take_succ xs n hlt,← HE.out,Int.pow_succ]
    have e1:=carry_step (10 ^ n) (2 * d + bb)
    have e2 : (10 : Int) ^ n * (2 * d + bb) = 2 * (10 ^ n * d) + 10 ^ n * bb:=by rw [Int.mul_add,Int.mul_left_comm]
    have e3:=HV.out
    omega
  ·obtain rfl : n = xs.length:=by omega
   have hbz : bb = 0 ∨ bb = 1:=by omega
   have hv : dval ds + 10 ^ ds.length * bb = 2 * N + b0.toNat:=by
    have:=HV.out
    rw [List.take_length,HD.out.2.2,← HL.out] at this
    omega
   have HW:=Lib.hid hv
   clear hv
   rcases hbz with rfl | rfl
   ·go_wp2_with fail
    go_ret
    refine ⟨u5,rfl,⟨ds,IsSl.of_own hown,HDD.out, ?_, ?_⟩,hbel⟩
    ·refine top_of_val HDD.out ?_
     by_cases hne : xs = []
     ·left
      have:=HL.out
      subst hne
      exact List.length_eq_zero_iff.1 this
     ·right
      have h1:=HD.out.le_of_ne hne
      have h2:=HW.out
      rw [Int.mul_zero,Int.add_zero] at h2
      rw [HL.out,h2]
      have h3 : ((10 ^ (xs.length - 1) : Nat) : Int) ≤ (N : Int):=by exact_mod_cast h1
      rw [Int.natCast_pow] at h3
      have h4 : ((10 : Nat) : Int) = 10:=rfl
      rw [h4] at h3
      omega
    ·have h2:=HW.out
     rw [Int.mul_zero,Int.add_zero] at h2
     rw [h2];omega
   ·go_wp2_with (at_builtin;refine wpList_push rfl (.tmp 30) (.tmp 32) rfl w.heap.size u5 ds rfl (hown.alloc _) wr.heap.size 1 rfl ?hc ?hl ?hb ?_;rotate_left 3;intro v1 w1 hown1 hg1)
    case hc=>simp [go_sem]
    case hl=>have:=HL.out;omega
    case hb=>go_size
    go_ret
    have h2:=HW.out
    have h0:=(dval_bd HDD.out).1
    refine ⟨v1,rfl,⟨ds ++ [1],IsSl.of_own hown1,HDD.out.snoc (by decide) (by decide), ?_, ?_⟩,below_push (hbel.alloc (by go_size) _) (hown.alloc _) hg1 (by go_size)⟩
    ·simp [Top]
    ·rw [dval_snoc,h2];omega
end Go.Proofs.YtnhmplfonkjfoaaDoor



namespace Go.Proofs.YtnhmplfonkjfoaaDoor
open Go.RowKit

theorem bit_step (n m j : Nat) (hj : j < 64) : 2 * (n / 2 ^ (64 * m + (j + 1))) + (n / 2 ^ (64 * m) % 2 ^ 64 / 2 ^ j % 2) = n / 2 ^ (64 * m + j):=by
 have e1 : 2 ^ 64 = 2 ^ j * 2 ^ (64 - j):=by rw [← Nat.pow_add];congr 1;omega
 have e2 : n / 2 ^ (64 * m) % 2 ^ 64 / 2 ^ j % 2 = n / 2 ^ (64 * m + j) % 2:=by
  rw [e1,Nat.mod_mul_right_div_self,Nat.div_div_eq_div_mul,← Nat.pow_add]
  have hd : 2 ^ 1 ∣ 2 ^ (64 - j):=Nat.pow_dvd_pow 2 (by omega)
  exact Nat.mod_mod_of_dvd _ hd
 rw [e2,← Nat.add_assoc,Nat.pow_succ,← Nat.div_div_eq_div_mul]
 omega
theorem pow_le_gen (a b : Nat) (h : a ≤ b) : 2 ^ a ≤ 10 ^ b:=Nat.le_trans (Nat.pow_le_pow_left (by decide) a) (Nat.pow_le_pow_right (by decide) h)
theorem lt_ten_1000 {n : Nat} (h : n < 2 ^ 256) : Small n:=fun _=>Nat.lt_of_lt_of_le h (pow_le_gen 256 1000 (by decide))
theorem div_lt_1000 {n : Nat} (h : n < 2 ^ 256) (d : Nat) : Small (n / d):=lt_ten_1000 (Nat.lt_of_le_of_lt (Nat.div_le_self _ _) h)

theorem bit_val (n m j : Nat) : wrap64 (bits .and .u64 (wd n m / 2 ^ j) 1) = ((n / 2 ^ (64 * m) % 2 ^ 64 / 2 ^ j % 2 : Nat) : Int):=by
 unfold wd
 have hx : n / 2 ^ (64 * m) % 2 ^ 64 < 18446744073709551616:=Nat.mod_lt _ (by decide)
 generalize n / 2 ^ (64 * m) % 2 ^ 64 = x at *
 have e : ((x : Nat) : Int) / 2 ^ j = ((x / 2 ^ j : Nat) : Int):=by
  rw [Int.natCast_ediv,Int.natCast_pow];rfl
 have hy : x / 2 ^ j ≤ x:=Nat.div_le_self _ _
 rw [e]
 generalize x / 2 ^ j = y at *
 have h:=bits_and_u64_nat y 1 (by omega) (by decide)
 rw [Nat.and_one_is_mod] at h
 have e1 : ((1 : Nat) : Int) = 1:=rfl
 rw [e1] at h
 rw [h]
 exact IntWalk.wrap64_in _ (by omega)

set_option maxHeartbeats 1000000 in
theorem words_any (n b L c : Nat) (w : World) (hn : n < 2 ^ 256) (hL : n < 2 ^ (64 * L)) (hL4 : L ≤ 4) (hb : b < w.heap.size) (hc : L ≤ c) (hw : ∀ i,i < L → w.cell? ⟨b,i,none⟩ = some (.int .u64 (wd n i))) :
  Calls Tryd.prog 72 #[.slice (some ⟨b,0,none⟩) L c] w (RetDg n w):=by
 have HW:=Lib.hid hw
 have HN:=Lib.hid hn
 have HL:=Lib.hid hL
 clear hw hn hL
 go_enter Tryd.func72,Tryd.ntmps72
 go_wp2_with fail
 go_loopg [3,4] L (fun k v i wr=>k ≤ L ∧ i = .int .i64 ((k : Int) - 1) ∧ Dg wr v (n / 2 ^ (64 * k)) ∧ Below w.heap.size w wr)
 case atStart =>
  refine ⟨Nat.le_refl _,rfl,⟨[],⟨none,0,rfl,Nat.le_refl _,fun h=>absurd rfl h⟩, ?_⟩,by (repeat' first|(with_reducible first|exact blR _ _|assumption|refine blD ?_|refine blN ?_ _)|((with_reducible first|refine blA ?_ ?_ _|refine blS ?_ ?_ _|refine blT (by assumption) ?_ ?_);focus (go_size;done)))⟩
  rw [Nat.div_eq_of_lt HL.out]
  exact IsDg.nil
 case round =>
  obtain ⟨hk,rfl,hdg,hbel⟩:=hrel
  have HD:=Lib.hid hdg
  clear hdg
  by_cases h0 : gk = 0
  ·subst h0
   have hm : ¬ (0 : Int) ≤ ((0 : Nat) : Int) - 1:=by omega
   go_wp2_with fail
   go_ret
   refine ⟨u3,rfl, ?_,hbel⟩
   have:=HD.out
   rwa [Nat.mul_zero,Nat.pow_zero,Nat.div_one] at this
  ·obtain ⟨m,rfl⟩ : ∃ m,gk = m + 1:=⟨gk - 1,by omega⟩
   have hp : (0 : Int) < ((m + 1 : Nat) : Int):=by omega
   have hx : ((m + 1 : Nat) : Int) - 1 = (m : Int):=by omega
   have hcw:=HW.out m (by omega)
   clear h0
   go_wp2_with fail
   simp only [hx]
   clear hx hp
   obtain ⟨wo,rfl⟩ : ∃ wo : World,wo = wr:=⟨_,rfl⟩
   go_loopg [3,5] 64 (fun k v i wr=>k ≤ 64 ∧ i = .int .i64 ((k : Int) - 1) ∧ Dg wr v (n / 2 ^ (64 * m + k)) ∧ Below w.heap.size w wr)
   case atStart =>
    refine ⟨by decide,rfl, ?_,hbel⟩
    have:=HD.out
    rwa [Nat.mul_add] at this
   case round =>
    obtain ⟨hk2,rfl,hdg2,hbel2⟩:=hrel
    have HD2:=Lib.hid hdg2
    clear hdg2
    by_cases h0 : gk = 0
    ·subst h0
     have hm : ¬ (0 : Int) ≤ ((0 : Nat) : Int) - 1:=by omega
     go_wp2_with fail
     go_roundg m
     case measure=>omega
     case rel =>
      refine ⟨by omega,rfl, ?_,hbel2⟩
      have:=HD2.out
      rwa [Nat.add_zero] at this
    ·obtain ⟨j,rfl⟩ : ∃ j,gk = j + 1:=⟨gk - 1,by omega⟩
     have hp2 : (0 : Int) < ((j + 1 : Nat) : Int):=by omega
     have hx2 : ((j + 1 : Nat) : Int) - 1 = (j : Int):=by omega
     have hcw2:=(hbel2.cell (p:=⟨b,m,none⟩) hb).trans hcw
     go_wp2_with fail
     have hbv:=bit_val n m j
     have hb2 : n / 2 ^ (64 * m) % 2 ^ 64 / 2 ^ j % 2 < 2:=Nat.mod_lt _ (by decide)
     have hst:=bit_step n m j (by omega)
     obtain ⟨t,ht⟩ : ∃ t,t = n / 2 ^ (64 * m) % 2 ^ 64 / 2 ^ j % 2:=⟨_,rfl⟩
     rw [← ht] at hbv hb2 hst
     rw [hbv]
     have HS:=Lib.hid hst
     clear hbv hst ht
     refine (twice_any (n / 2 ^ (64 * m + (j + 1))) (t : Int) (by omega) (by omega) u3 _ HD2.out (div_lt_1000 HN.out _)).mono ?_
     rintro _ w2 ⟨v2,rfl,hdg3,hb3⟩
     have hb3s:=hb3.size
     have hb2s:=hbel2.size
     rw [Int.toNat_natCast,HS.out] at hdg3
     have HD3:=Lib.hid hdg3
     clear hdg3
     go_wp2_with fail
     go_roundg j
     case measure=>omega
     case rel=>exact ⟨by omega,rfl,HD3.out,by (repeat' first|(with_reducible first|exact blR _ _|assumption|refine blD ?_|refine blN ?_ _)|((with_reducible first|refine blA ?_ ?_ _|refine blS ?_ ?_ _|refine blT (by assumption) ?_ ?_);focus (go_size;done)))⟩
end Go.Proofs.YtnhmplfonkjfoaaDoor



namespace Go.Proofs.YtnhmplfonkjfoaaDoor
open Go.RowKit

set_option maxHeartbeats 1000000 in
theorem of_any (n : Nat) (hn : n < 2 ^ 128) (w : World) : Calls Tryd.prog 58 #[.agg #[.int .u64 (wd n 1),.int .u64 (wd n 0)]] w (RetDg n w):=by
 have HN:=Lib.hid hn
 clear hn
 have H:=Lib.hid (fun (W : World) (b : Nat) (hb : b < W.heap.size) (hw : ∀ i,i < 2 → W.cell? ⟨b,i,none⟩ = some (.int .u64 (wd n i))) =>
  words_any n b 2 2 W (Nat.lt_of_lt_of_le HN.out (Nat.pow_le_pow_right (by decide) (by decide))) HN.out (by decide) hb (Nat.le_refl _) hw)
 go_enter Tryd.func58,Tryd.ntmps58
 go_wp2_with fail
 refine (H.out _ _ (by go_size) ?_).mono ?_
 ·intro i hi
  match i,hi with
  | 0,_=>simp [go_sem]
  | 1,_=>simp [go_sem]
 rintro _ w1 ⟨v,rfl,hdg,hb⟩
 have HD:=Lib.hid hdg
 clear hdg
 go_wp2_with fail
 go_ret
 exact ⟨v,rfl,HD.out,by (repeat' first|(with_reducible first|exact blR _ _|assumption|refine blD ?_|refine blN ?_ _)|((with_reducible first|refine blA ?_ ?_ _|refine blS ?_ ?_ _|refine blT (by assumption) ?_ ?_);focus (go_size;done)))⟩
end Go.Proofs.YtnhmplfonkjfoaaDoor



namespace Go.Proofs.YtnhmplfonkjfoaaDoor
open Go.RowKit

open Classical in
set_option maxRecDepth 100000 in
theorem neq_node (i j : InsD) (W : World) : (binOp .neq 45 (.agg #[.int .i64 i.op,.int .i64 i.a,.string i.tx,.bool i.ng,.int .u64 i.hi,.int .u64 i.lo,.int .i64 i.sc,.int .i64 i.dy]) (.agg #[.int .i64 j.op,.int .i64 j.a,.string j.tx,.bool j.ng,.int .u64 j.hi,.int .u64 j.lo,.int .i64 j.sc,.int .i64 j.dy])).run Tryd.prog W = .ok (.bool (!(insE i j))) W:=by
 obtain ⟨a1,a2,a3,a4,a5,a6,a7,a8⟩:=i
 obtain ⟨b1,b2,b3,b4,b5,b6,b7,b8⟩:=j
 unfold insE
 dsimp only
 go_simp
 repeat' split
 all_goals simp_all
set_option maxRecDepth 100000 in
set_option maxHeartbeats 1500000 in
theorem same_node (is js : List InsD) (v u : Value) (w : World) (h : Cod w v is) (h2 : Cod w u js) : Calls Tryd.prog 17 #[v,u] w fun e w'=>e = .returned (.bool (sameB is js)) ∧ Below w.heap.size w w':=by
 have HI:=Lib.hid h
 have HJ:=Lib.hid h2
 obtain ⟨A,C,rfl,ha,_⟩:=h
 obtain ⟨A2,C2,rfl,hb,_⟩:=h2
 unfold maxLen at ha hb
 obtain ⟨R,hR⟩ : ∃ R,R = sameB is js:=⟨_,rfl⟩
 have HR:=Lib.hid hR
 rw [← hR]
 clear hR
 by_cases hl : is.length = js.length
 ·rw [← hl] at HJ hb ⊢
  have HL:=Lib.hid hl
  clear hl
  go_enter Tryd.func17,Tryd.ntmps17
  go_wp2_with fail
  go_loopg [5] is.length (fun k i wr=>∃ t : Nat,k + t = is.length ∧ i = .int .i64 t ∧ Hid (∀ r,r < t → ig is r = ig js r) ∧ Hid (Below w.heap.size w wr))
  case atStart=>exact ⟨0,by omega,rfl,Lib.hid (fun r hr=>absurd hr (Nat.not_lt_zero _)),Lib.hid (Below.refl _ _)⟩
  case round =>
   obtain ⟨t,hk,rfl,HU,HB⟩:=hrel
   have HK:=Lib.hid hk
   have htn : t ≤ is.length:=by omega
   clear hk
   by_cases hlt : t < is.length
   ·obtain ⟨b1,p1,rfl,a1⟩:=(HI.out.below HB.out).at hlt
    obtain ⟨b2,p2,rfl,a2⟩:=(HJ.out.below HB.out).at (by rw [← HL.out];exact hlt)
    obtain ⟨I,hI⟩ : ∃ I,I = ig is t:=⟨_,rfl⟩
    obtain ⟨J,hJ⟩ : ∃ J,J = ig js t:=⟨_,rfl⟩
    rw [← hI] at a1
    rw [← hJ] at a2
    have HE:=Lib.hid (And.intro hI hJ)
    have hq:=neq_node I J
    obtain ⟨x0,x1,x2,x3,x4,x5,x6,x7⟩:=a1.ins
    obtain ⟨y0,y1,y2,y3,y4,y5,y6,y7⟩:=a2.ins
    clear a1 a2 hI hJ
    cases he : insE I J with
    | true =>
     have HIJ : Hid (ig is t = ig js t):=Lib.hid (by rw [← HE.out.1,← HE.out.2];exact insE_true he)
     rw [he] at hq
     go_wp2_with fail
     go_quiet (fail)
     go_wp2_with fail
     go_roundg (gk - 1)
     case measure=>have:=HK.out;omega
     case rel=>exact ⟨t + 1,by have:=HK.out;omega,by go_num,Lib.hid (fun r hr=>by
       by_cases e : r = t
       ·subst e;exact HIJ.out
       ·exact HU.out r (by omega)),Lib.hid (below_drewN HB.out _)⟩
    | false =>
     have hr : R = false:=by
      rw [HR.out]
      refine sameB_no (fun e=>?_)
      have h9 : I = J:=by rw [HE.out.1,HE.out.2,e]
      rw [h9,insE_self] at he
      cases he
     rw [he] at hq
     go_wp2_with fail
     go_quiet (fail)
     go_wp2_with fail
     go_ret
     exact ⟨by first | rfl | (rw [hr];rfl),below_drewN HB.out _⟩
   ·obtain rfl : t = is.length:=by omega
    have hr : R = true:=by
     rw [HR.out]
     exact sameB_yes (same_ext HL.out HU.out)
    go_wp2_with fail
    go_ret
    exact ⟨by first | rfl | (rw [hr];rfl),HB.out⟩
 ·have hr : R = false:=by
   rw [HR.out]
   exact sameB_no (fun e=>hl (by rw [e]))
  have hne : ((is.length : Int) != (js.length : Int)) = true:=by rw [bne_iff_ne];omega
  go_enter Tryd.func17,Tryd.ntmps17
  go_wp2_with fail
  go_ret
  exact ⟨by first | rfl | (rw [hr];rfl),Below.refl _ _⟩
end Go.Proofs.YtnhmplfonkjfoaaDoor

