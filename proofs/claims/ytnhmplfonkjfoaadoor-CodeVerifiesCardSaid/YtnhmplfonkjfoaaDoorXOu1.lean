/- What this law reaches beyond the common contracts, part 1. -/
import Derived.BigQuiet
import Derived.OwnWalk
import Derived.BigRegion
import Derived.Deep.DeepCutAuto
import Derived.Test.YtnhmplfonkjfoaaDoorM1
set_option linter.unusedSimpArgs false
set_option linter.unusedVariables false


namespace Go.Proofs.YtnhmplfonkjfoaaDoor
open Go.RowKit

def tk (op a : Int) : Int × Int × Int × Int × Bool :=
 if a < 0 ∨ (op = 36 ∧ a < 1) ∨ (op = 25 ∧ 8 < a) then (0,0,0,0,false)
 else if ¬ (op = 25 ∨ op = 26 ∨ op = 27 ∨ op = 36) ∧ op ≠ 101 ∧ op ≠ 102 ∧ a ≠ 0 then (0,0,0,0,false)
 else if op = 25 ∨ op = 26 ∨ op = 27 ∨ op = 36 then (a,1,0,0,true)
 else if (1 ≤ op ∧ op ≤ 7) ∨ op = 29 then (0,1,0,0,true)
 else if op = 8 ∨ op = 24 ∨ op = 28 ∨ op = 37 then (1,1,0,0,true)
 else if 9 ≤ op ∧ op ≤ 20 then (2,1,0,0,true)
 else if op = 22 then (3,1,0,0,true)
 else if 30 ≤ op ∧ op ≤ 34 then (1,1,0,1,true)
 else if op = 35 then (2,1,0,1,true)
 else if op = 101 then (0,0,0,0,true)
 else if op = 102 then (1,0,0,0,true)
 else if op = 103 then (1,0,1,0,true)
 else if op = 104 then (0,0,-1,1,true)
 else (0,0,0,0,false)
set_option maxHeartbeats 400000 in
theorem rcounted_any (op : Int) (w : World) : Calls Tryd.prog 45 #[.int .i64 op] w fun e w'=>e = .returned (.bool (cnt op)) ∧ w = w':=by
 go_enter Tryd.func45,Tryd.ntmps45
 go_wp2
 all_goals go_ret
 all_goals refine ⟨ret_bool ?_,rfl⟩
 all_goals simp [cnt]
 all_goals (first | done | omega | (simp_all;done) | (simp_all;omega) | (rw [Bool.eq_iff_iff];simp_all;done) | (rw [Bool.eq_iff_iff];simp_all;omega))
set_option maxHeartbeats 4000000 in
theorem takes_any (op a : Int) (tx : ByteArray) (ng : Bool) (hi lo sc dy : Int) (w : World) : Calls Tryd.prog 23 #[.agg #[.int .i64 op,.int .i64 a,.string tx,.bool ng,.int .u64 hi,.int .u64 lo,.int .i64 sc,.int .i64 dy]] w fun e w'=>e = .returned (.tuple #[.int .i64 (tk op a).1,.int .i64 (tk op a).2.1,.int .i64 (tk op a).2.2.1,.int .i64 (tk op a).2.2.2.1,.bool (tk op a).2.2.2.2]) ∧ Below w.heap.size w w':=by
 rcases Int.lt_or_le a 0 with h0 | h0
 ·have tok:=trivial
  have e : tk op a = (0,0,0,0,false):=by
   unfold tk
   repeat (first | rw [if_pos (by omega)] | rw [if_neg (by omega)])
  have hc : cnt op = cnt op:=by unfold cnt;first | rfl | (rw [decide_eq_true_eq];omega) | (rw [decide_eq_false_iff_not];omega)
  rw [e]
  have HK:=Lib.hid (fun W=>rcounted_any op W)
  rw [hc] at HK
  clear e hc
  go_enter Tryd.func23,Tryd.ntmps23
  go_wp2_with (go_at_call 45;with_reducible refine (HK.out _).mono ?_;rintro _ _ ⟨rfl,rfl⟩)
  all_goals refine bodyPost_ret (by simp [results,Tryd.results23,go_sem, *];try rfl) rfl ?_
  all_goals first | exact ⟨rfl,by (repeat' first|(with_reducible first|exact blR _ _|assumption|refine blD ?_|refine blN ?_ _)|((with_reducible first|refine blA ?_ ?_ _|refine blS ?_ ?_ _|refine blT (by assumption) ?_ ?_);focus (go_size;done)))⟩ | (refine ⟨?_,by (repeat' first|(with_reducible first|exact blR _ _|assumption|refine blD ?_|refine blN ?_ _)|((with_reducible first|refine blA ?_ ?_ _|refine blS ?_ ?_ _|refine blT (by assumption) ?_ ?_);focus (go_size;done)))⟩;simp_all)
 by_cases c1 : op = 25
 ·subst c1
  by_cases c2 : 8 < a
  ·have tok:=trivial
   have e : tk 25 a = (0,0,0,0,false):=by
    unfold tk
    repeat (first | rw [if_pos (by omega)] | rw [if_neg (by omega)])
   have hc : cnt 25 = true:=by unfold cnt;first | rfl | (rw [decide_eq_true_eq];omega) | (rw [decide_eq_false_iff_not];omega)
   rw [e]
   have HK:=Lib.hid (fun W=>rcounted_any 25 W)
   rw [hc] at HK
   clear e hc
   go_enter Tryd.func23,Tryd.ntmps23
   go_wp2_with (go_at_call 45;with_reducible refine (HK.out _).mono ?_;rintro _ _ ⟨rfl,rfl⟩)
   all_goals refine bodyPost_ret (by simp [results,Tryd.results23,go_sem, *];try rfl) rfl ?_
   all_goals first | exact ⟨rfl,by (repeat' first|(with_reducible first|exact blR _ _|assumption|refine blD ?_|refine blN ?_ _)|((with_reducible first|refine blA ?_ ?_ _|refine blS ?_ ?_ _|refine blT (by assumption) ?_ ?_);focus (go_size;done)))⟩ | (refine ⟨?_,by (repeat' first|(with_reducible first|exact blR _ _|assumption|refine blD ?_|refine blN ?_ _)|((with_reducible first|refine blA ?_ ?_ _|refine blS ?_ ?_ _|refine blT (by assumption) ?_ ?_);focus (go_size;done)))⟩;simp_all)
  ·have c3 : a ≤ 8:=by omega
   have e : tk 25 a = (a,1,0,0,true):=by
    unfold tk
    repeat (first | rw [if_pos (by omega)] | rw [if_neg (by omega)])
   have hc : cnt 25 = true:=by unfold cnt;first | rfl | (rw [decide_eq_true_eq];omega) | (rw [decide_eq_false_iff_not];omega)
   rw [e]
   have HK:=Lib.hid (fun W=>rcounted_any 25 W)
   rw [hc] at HK
   clear e hc
   go_enter Tryd.func23,Tryd.ntmps23
   go_wp2_with (go_at_call 45;with_reducible refine (HK.out _).mono ?_;rintro _ _ ⟨rfl,rfl⟩)
   all_goals refine bodyPost_ret (by simp [results,Tryd.results23,go_sem, *];try rfl) rfl ?_
   all_goals first | exact ⟨rfl,by (repeat' first|(with_reducible first|exact blR _ _|assumption|refine blD ?_|refine blN ?_ _)|((with_reducible first|refine blA ?_ ?_ _|refine blS ?_ ?_ _|refine blT (by assumption) ?_ ?_);focus (go_size;done)))⟩ | (refine ⟨?_,by (repeat' first|(with_reducible first|exact blR _ _|assumption|refine blD ?_|refine blN ?_ _)|((with_reducible first|refine blA ?_ ?_ _|refine blS ?_ ?_ _|refine blT (by assumption) ?_ ?_);focus (go_size;done)))⟩;simp_all)
 by_cases c2 : op = 36
 ·subst c2
  by_cases c2 : a < 1
  ·have tok:=trivial
   have e : tk 36 a = (0,0,0,0,false):=by
    unfold tk
    repeat (first | rw [if_pos (by omega)] | rw [if_neg (by omega)])
   have hc : cnt 36 = true:=by unfold cnt;first | rfl | (rw [decide_eq_true_eq];omega) | (rw [decide_eq_false_iff_not];omega)
   rw [e]
   have HK:=Lib.hid (fun W=>rcounted_any 36 W)
   rw [hc] at HK
   clear e hc
   go_enter Tryd.func23,Tryd.ntmps23
   go_wp2_with (go_at_call 45;with_reducible refine (HK.out _).mono ?_;rintro _ _ ⟨rfl,rfl⟩)
   all_goals refine bodyPost_ret (by simp [results,Tryd.results23,go_sem, *];try rfl) rfl ?_
   all_goals first | exact ⟨rfl,by (repeat' first|(with_reducible first|exact blR _ _|assumption|refine blD ?_|refine blN ?_ _)|((with_reducible first|refine blA ?_ ?_ _|refine blS ?_ ?_ _|refine blT (by assumption) ?_ ?_);focus (go_size;done)))⟩ | (refine ⟨?_,by (repeat' first|(with_reducible first|exact blR _ _|assumption|refine blD ?_|refine blN ?_ _)|((with_reducible first|refine blA ?_ ?_ _|refine blS ?_ ?_ _|refine blT (by assumption) ?_ ?_);focus (go_size;done)))⟩;simp_all)
  ·have c3 : 1 ≤ a:=by omega
   have e : tk 36 a = (a,1,0,0,true):=by
    unfold tk
    repeat (first | rw [if_pos (by omega)] | rw [if_neg (by omega)])
   have hc : cnt 36 = true:=by unfold cnt;first | rfl | (rw [decide_eq_true_eq];omega) | (rw [decide_eq_false_iff_not];omega)
   rw [e]
   have HK:=Lib.hid (fun W=>rcounted_any 36 W)
   rw [hc] at HK
   clear e hc
   go_enter Tryd.func23,Tryd.ntmps23
   go_wp2_with (go_at_call 45;with_reducible refine (HK.out _).mono ?_;rintro _ _ ⟨rfl,rfl⟩)
   all_goals refine bodyPost_ret (by simp [results,Tryd.results23,go_sem, *];try rfl) rfl ?_
   all_goals first | exact ⟨rfl,by (repeat' first|(with_reducible first|exact blR _ _|assumption|refine blD ?_|refine blN ?_ _)|((with_reducible first|refine blA ?_ ?_ _|refine blS ?_ ?_ _|refine blT (by assumption) ?_ ?_);focus (go_size;done)))⟩ | (refine ⟨?_,by (repeat' first|(with_reducible first|exact blR _ _|assumption|refine blD ?_|refine blN ?_ _)|((with_reducible first|refine blA ?_ ?_ _|refine blS ?_ ?_ _|refine blT (by assumption) ?_ ?_);focus (go_size;done)))⟩;simp_all)
 by_cases c3 : op = 26
 ·subst c3
  have e : tk 26 a = (a,1,0,0,true):=by
   unfold tk
   repeat (first | rw [if_pos (by omega)] | rw [if_neg (by omega)])
  have hc : cnt 26 = true:=by unfold cnt;first | rfl | (rw [decide_eq_true_eq];omega) | (rw [decide_eq_false_iff_not];omega)
  rw [e]
  have HK:=Lib.hid (fun W=>rcounted_any 26 W)
  rw [hc] at HK
  clear e hc
  go_enter Tryd.func23,Tryd.ntmps23
  go_wp2_with (go_at_call 45;with_reducible refine (HK.out _).mono ?_;rintro _ _ ⟨rfl,rfl⟩)
  all_goals refine bodyPost_ret (by simp [results,Tryd.results23,go_sem, *];try rfl) rfl ?_
  all_goals first | exact ⟨rfl,by (repeat' first|(with_reducible first|exact blR _ _|assumption|refine blD ?_|refine blN ?_ _)|((with_reducible first|refine blA ?_ ?_ _|refine blS ?_ ?_ _|refine blT (by assumption) ?_ ?_);focus (go_size;done)))⟩ | (refine ⟨?_,by (repeat' first|(with_reducible first|exact blR _ _|assumption|refine blD ?_|refine blN ?_ _)|((with_reducible first|refine blA ?_ ?_ _|refine blS ?_ ?_ _|refine blT (by assumption) ?_ ?_);focus (go_size;done)))⟩;simp_all)
 by_cases c4 : op = 27
 ·subst c4
  have e : tk 27 a = (a,1,0,0,true):=by
   unfold tk
   repeat (first | rw [if_pos (by omega)] | rw [if_neg (by omega)])
  have hc : cnt 27 = true:=by unfold cnt;first | rfl | (rw [decide_eq_true_eq];omega) | (rw [decide_eq_false_iff_not];omega)
  rw [e]
  have HK:=Lib.hid (fun W=>rcounted_any 27 W)
  rw [hc] at HK
  clear e hc
  go_enter Tryd.func23,Tryd.ntmps23
  go_wp2_with (go_at_call 45;with_reducible refine (HK.out _).mono ?_;rintro _ _ ⟨rfl,rfl⟩)
  all_goals refine bodyPost_ret (by simp [results,Tryd.results23,go_sem, *];try rfl) rfl ?_
  all_goals first | exact ⟨rfl,by (repeat' first|(with_reducible first|exact blR _ _|assumption|refine blD ?_|refine blN ?_ _)|((with_reducible first|refine blA ?_ ?_ _|refine blS ?_ ?_ _|refine blT (by assumption) ?_ ?_);focus (go_size;done)))⟩ | (refine ⟨?_,by (repeat' first|(with_reducible first|exact blR _ _|assumption|refine blD ?_|refine blN ?_ _)|((with_reducible first|refine blA ?_ ?_ _|refine blS ?_ ?_ _|refine blT (by assumption) ?_ ?_);focus (go_size;done)))⟩;simp_all)
 by_cases c5 : op = 101
 ·subst c5
  have e : tk 101 a = (0,0,0,0,true):=by
   unfold tk
   repeat (first | rw [if_pos (by omega)] | rw [if_neg (by omega)])
  have hc : cnt 101 = false:=by unfold cnt;first | rfl | (rw [decide_eq_true_eq];omega) | (rw [decide_eq_false_iff_not];omega)
  rw [e]
  have HK:=Lib.hid (fun W=>rcounted_any 101 W)
  rw [hc] at HK
  clear e hc
  go_enter Tryd.func23,Tryd.ntmps23
  go_wp2_with (go_at_call 45;with_reducible refine (HK.out _).mono ?_;rintro _ _ ⟨rfl,rfl⟩)
  all_goals refine bodyPost_ret (by simp [results,Tryd.results23,go_sem, *];try rfl) rfl ?_
  all_goals first | exact ⟨rfl,by (repeat' first|(with_reducible first|exact blR _ _|assumption|refine blD ?_|refine blN ?_ _)|((with_reducible first|refine blA ?_ ?_ _|refine blS ?_ ?_ _|refine blT (by assumption) ?_ ?_);focus (go_size;done)))⟩ | (refine ⟨?_,by (repeat' first|(with_reducible first|exact blR _ _|assumption|refine blD ?_|refine blN ?_ _)|((with_reducible first|refine blA ?_ ?_ _|refine blS ?_ ?_ _|refine blT (by assumption) ?_ ?_);focus (go_size;done)))⟩;simp_all)
 by_cases c6 : op = 102
 ·subst c6
  have e : tk 102 a = (1,0,0,0,true):=by
   unfold tk
   repeat (first | rw [if_pos (by omega)] | rw [if_neg (by omega)])
  have hc : cnt 102 = false:=by unfold cnt;first | rfl | (rw [decide_eq_true_eq];omega) | (rw [decide_eq_false_iff_not];omega)
  rw [e]
  have HK:=Lib.hid (fun W=>rcounted_any 102 W)
  rw [hc] at HK
  clear e hc
  go_enter Tryd.func23,Tryd.ntmps23
  go_wp2_with (go_at_call 45;with_reducible refine (HK.out _).mono ?_;rintro _ _ ⟨rfl,rfl⟩)
  all_goals refine bodyPost_ret (by simp [results,Tryd.results23,go_sem, *];try rfl) rfl ?_
  all_goals first | exact ⟨rfl,by (repeat' first|(with_reducible first|exact blR _ _|assumption|refine blD ?_|refine blN ?_ _)|((with_reducible first|refine blA ?_ ?_ _|refine blS ?_ ?_ _|refine blT (by assumption) ?_ ?_);focus (go_size;done)))⟩ | (refine ⟨?_,by (repeat' first|(with_reducible first|exact blR _ _|assumption|refine blD ?_|refine blN ?_ _)|((with_reducible first|refine blA ?_ ?_ _|refine blS ?_ ?_ _|refine blT (by assumption) ?_ ?_);focus (go_size;done)))⟩;simp_all)
 by_cases c7 : a ≠ 0
 ·have tok:=trivial
  have q25 : (op == 25) = false:=by rw [beq_eq_false_iff_ne];omega
  have r25 : (op != 25) = true:=by rw [bne_iff_ne];omega
  have q36 : (op == 36) = false:=by rw [beq_eq_false_iff_ne];omega
  have r36 : (op != 36) = true:=by rw [bne_iff_ne];omega
  have q101 : (op == 101) = false:=by rw [beq_eq_false_iff_ne];omega
  have r101 : (op != 101) = true:=by rw [bne_iff_ne];omega
  have q102 : (op == 102) = false:=by rw [beq_eq_false_iff_ne];omega
  have r102 : (op != 102) = true:=by rw [bne_iff_ne];omega
  have ra : (a != 0) = true:=by rw [bne_iff_ne];omega
  have e : tk op a = (0,0,0,0,false):=by
   unfold tk
   repeat (first | rw [if_pos (by omega)] | rw [if_neg (by omega)])
  have hc : cnt op = false:=by unfold cnt;first | rfl | (rw [decide_eq_true_eq];omega) | (rw [decide_eq_false_iff_not];omega)
  rw [e]
  have HK:=Lib.hid (fun W=>rcounted_any op W)
  rw [hc] at HK
  clear e hc
  go_enter Tryd.func23,Tryd.ntmps23
  go_wp2_with (go_at_call 45;with_reducible refine (HK.out _).mono ?_;rintro _ _ ⟨rfl,rfl⟩)
  all_goals refine bodyPost_ret (by simp [results,Tryd.results23,go_sem, *];try rfl) rfl ?_
  all_goals first | exact ⟨rfl,by (repeat' first|(with_reducible first|exact blR _ _|assumption|refine blD ?_|refine blN ?_ _)|((with_reducible first|refine blA ?_ ?_ _|refine blS ?_ ?_ _|refine blT (by assumption) ?_ ?_);focus (go_size;done)))⟩ | (refine ⟨?_,by (repeat' first|(with_reducible first|exact blR _ _|assumption|refine blD ?_|refine blN ?_ _)|((with_reducible first|refine blA ?_ ?_ _|refine blS ?_ ?_ _|refine blT (by assumption) ?_ ?_);focus (go_size;done)))⟩;simp_all)
 obtain rfl : a = 0:=by omega
 by_cases d0 : op = 29
 ·subst d0
  have e : tk 29 0 = (0,1,0,0,true):=by
   unfold tk
   repeat (first | rw [if_pos (by omega)] | rw [if_neg (by omega)])
  have hc : cnt 29 = false:=by unfold cnt;first | rfl | (rw [decide_eq_true_eq];omega) | (rw [decide_eq_false_iff_not];omega)
  rw [e]
  have HK:=Lib.hid (fun W=>rcounted_any 29 W)
  rw [hc] at HK
  clear e hc
  go_enter Tryd.func23,Tryd.ntmps23
  go_wp2_with (go_at_call 45;with_reducible refine (HK.out _).mono ?_;rintro _ _ ⟨rfl,rfl⟩)
  all_goals refine bodyPost_ret (by simp [results,Tryd.results23,go_sem, *];try rfl) rfl ?_
  all_goals first | exact ⟨rfl,by (repeat' first|(with_reducible first|exact blR _ _|assumption|refine blD ?_|refine blN ?_ _)|((with_reducible first|refine blA ?_ ?_ _|refine blS ?_ ?_ _|refine blT (by assumption) ?_ ?_);focus (go_size;done)))⟩ | (refine ⟨?_,by (repeat' first|(with_reducible first|exact blR _ _|assumption|refine blD ?_|refine blN ?_ _)|((with_reducible first|refine blA ?_ ?_ _|refine blS ?_ ?_ _|refine blT (by assumption) ?_ ?_);focus (go_size;done)))⟩;simp_all)
 by_cases d1 : 1 ≤ op ∧ op ≤ 7
 ·obtain ⟨da,db⟩:=d1
  have q25 : (op == 25) = false:=by rw [beq_eq_false_iff_ne];omega
  have r25 : (op != 25) = true:=by rw [bne_iff_ne];omega
  have q36 : (op == 36) = false:=by rw [beq_eq_false_iff_ne];omega
  have r36 : (op != 36) = true:=by rw [bne_iff_ne];omega
  have q101 : (op == 101) = false:=by rw [beq_eq_false_iff_ne];omega
  have r101 : (op != 101) = true:=by rw [bne_iff_ne];omega
  have q102 : (op == 102) = false:=by rw [beq_eq_false_iff_ne];omega
  have r102 : (op != 102) = true:=by rw [bne_iff_ne];omega
  have q26 : (op == 26) = false:=by rw [beq_eq_false_iff_ne];omega
  have q27 : (op == 27) = false:=by rw [beq_eq_false_iff_ne];omega
  have q8 : (op == 8) = false:=by rw [beq_eq_false_iff_ne];omega
  have q24 : (op == 24) = false:=by rw [beq_eq_false_iff_ne];omega
  have q28 : (op == 28) = false:=by rw [beq_eq_false_iff_ne];omega
  have q37 : (op == 37) = false:=by rw [beq_eq_false_iff_ne];omega
  have q29 : (op == 29) = false:=by rw [beq_eq_false_iff_ne];omega
  have q22 : (op == 22) = false:=by rw [beq_eq_false_iff_ne];omega
  have q35 : (op == 35) = false:=by rw [beq_eq_false_iff_ne];omega
  have q103 : (op == 103) = false:=by rw [beq_eq_false_iff_ne];omega
  have q104 : (op == 104) = false:=by rw [beq_eq_false_iff_ne];omega
  have e : tk op 0 = (0,1,0,0,true):=by
   unfold tk
   repeat (first | rw [if_pos (by omega)] | rw [if_neg (by omega)])
  have hc : cnt op = false:=by unfold cnt;first | rfl | (rw [decide_eq_true_eq];omega) | (rw [decide_eq_false_iff_not];omega)
  rw [e]
  have HK:=Lib.hid (fun W=>rcounted_any op W)
  rw [hc] at HK
  clear e hc
  go_enter Tryd.func23,Tryd.ntmps23
  go_wp2_with (go_at_call 45;with_reducible refine (HK.out _).mono ?_;rintro _ _ ⟨rfl,rfl⟩)
  all_goals refine bodyPost_ret (by simp [results,Tryd.results23,go_sem, *];try rfl) rfl ?_
  all_goals first | exact ⟨rfl,by (repeat' first|(with_reducible first|exact blR _ _|assumption|refine blD ?_|refine blN ?_ _)|((with_reducible first|refine blA ?_ ?_ _|refine blS ?_ ?_ _|refine blT (by assumption) ?_ ?_);focus (go_size;done)))⟩ | (refine ⟨?_,by (repeat' first|(with_reducible first|exact blR _ _|assumption|refine blD ?_|refine blN ?_ _)|((with_reducible first|refine blA ?_ ?_ _|refine blS ?_ ?_ _|refine blT (by assumption) ?_ ?_);focus (go_size;done)))⟩;simp_all)
 by_cases d2 : op = 8
 ·subst d2
  have e : tk 8 0 = (1,1,0,0,true):=by
   unfold tk
   repeat (first | rw [if_pos (by omega)] | rw [if_neg (by omega)])
  have hc : cnt 8 = false:=by unfold cnt;first | rfl | (rw [decide_eq_true_eq];omega) | (rw [decide_eq_false_iff_not];omega)
  rw [e]
  have HK:=Lib.hid (fun W=>rcounted_any 8 W)
  rw [hc] at HK
  clear e hc
  go_enter Tryd.func23,Tryd.ntmps23
  go_wp2_with (go_at_call 45;with_reducible refine (HK.out _).mono ?_;rintro _ _ ⟨rfl,rfl⟩)
  all_goals refine bodyPost_ret (by simp [results,Tryd.results23,go_sem, *];try rfl) rfl ?_
  all_goals first | exact ⟨rfl,by (repeat' first|(with_reducible first|exact blR _ _|assumption|refine blD ?_|refine blN ?_ _)|((with_reducible first|refine blA ?_ ?_ _|refine blS ?_ ?_ _|refine blT (by assumption) ?_ ?_);focus (go_size;done)))⟩ | (refine ⟨?_,by (repeat' first|(with_reducible first|exact blR _ _|assumption|refine blD ?_|refine blN ?_ _)|((with_reducible first|refine blA ?_ ?_ _|refine blS ?_ ?_ _|refine blT (by assumption) ?_ ?_);focus (go_size;done)))⟩;simp_all)
 by_cases d3 : op = 24
 ·subst d3
  have e : tk 24 0 = (1,1,0,0,true):=by
   unfold tk
   repeat (first | rw [if_pos (by omega)] | rw [if_neg (by omega)])
  have hc : cnt 24 = false:=by unfold cnt;first | rfl | (rw [decide_eq_true_eq];omega) | (rw [decide_eq_false_iff_not];omega)
  rw [e]
  have HK:=Lib.hid (fun W=>rcounted_any 24 W)
  rw [hc] at HK
  clear e hc
  go_enter Tryd.func23,Tryd.ntmps23
  go_wp2_with (go_at_call 45;with_reducible refine (HK.out _).mono ?_;rintro _ _ ⟨rfl,rfl⟩)
  all_goals refine bodyPost_ret (by simp [results,Tryd.results23,go_sem, *];try rfl) rfl ?_
  all_goals first | exact ⟨rfl,by (repeat' first|(with_reducible first|exact blR _ _|assumption|refine blD ?_|refine blN ?_ _)|((with_reducible first|refine blA ?_ ?_ _|refine blS ?_ ?_ _|refine blT (by assumption) ?_ ?_);focus (go_size;done)))⟩ | (refine ⟨?_,by (repeat' first|(with_reducible first|exact blR _ _|assumption|refine blD ?_|refine blN ?_ _)|((with_reducible first|refine blA ?_ ?_ _|refine blS ?_ ?_ _|refine blT (by assumption) ?_ ?_);focus (go_size;done)))⟩;simp_all)
 by_cases d4 : op = 28
 ·subst d4
  have e : tk 28 0 = (1,1,0,0,true):=by
   unfold tk
   repeat (first | rw [if_pos (by omega)] | rw [if_neg (by omega)])
  have hc : cnt 28 = false:=by unfold cnt;first | rfl | (rw [decide_eq_true_eq];omega) | (rw [decide_eq_false_iff_not];omega)
  rw [e]
  have HK:=Lib.hid (fun W=>rcounted_any 28 W)
  rw [hc] at HK
  clear e hc
  go_enter Tryd.func23,Tryd.ntmps23
  go_wp2_with (go_at_call 45;with_reducible refine (HK.out _).mono ?_;rintro _ _ ⟨rfl,rfl⟩)
  all_goals refine bodyPost_ret (by simp [results,Tryd.results23,go_sem, *];try rfl) rfl ?_
  all_goals first | exact ⟨rfl,by (repeat' first|(with_reducible first|exact blR _ _|assumption|refine blD ?_|refine blN ?_ _)|((with_reducible first|refine blA ?_ ?_ _|refine blS ?_ ?_ _|refine blT (by assumption) ?_ ?_);focus (go_size;done)))⟩ | (refine ⟨?_,by (repeat' first|(with_reducible first|exact blR _ _|assumption|refine blD ?_|refine blN ?_ _)|((with_reducible first|refine blA ?_ ?_ _|refine blS ?_ ?_ _|refine blT (by assumption) ?_ ?_);focus (go_size;done)))⟩;simp_all)
 by_cases d5 : op = 37
 ·subst d5
  have e : tk 37 0 = (1,1,0,0,true):=by
   unfold tk
   repeat (first | rw [if_pos (by omega)] | rw [if_neg (by omega)])
  have hc : cnt 37 = false:=by unfold cnt;first | rfl | (rw [decide_eq_true_eq];omega) | (rw [decide_eq_false_iff_not];omega)
  rw [e]
  have HK:=Lib.hid (fun W=>rcounted_any 37 W)
  rw [hc] at HK
  clear e hc
  go_enter Tryd.func23,Tryd.ntmps23
  go_wp2_with (go_at_call 45;with_reducible refine (HK.out _).mono ?_;rintro _ _ ⟨rfl,rfl⟩)
  all_goals refine bodyPost_ret (by simp [results,Tryd.results23,go_sem, *];try rfl) rfl ?_
  all_goals first | exact ⟨rfl,by (repeat' first|(with_reducible first|exact blR _ _|assumption|refine blD ?_|refine blN ?_ _)|((with_reducible first|refine blA ?_ ?_ _|refine blS ?_ ?_ _|refine blT (by assumption) ?_ ?_);focus (go_size;done)))⟩ | (refine ⟨?_,by (repeat' first|(with_reducible first|exact blR _ _|assumption|refine blD ?_|refine blN ?_ _)|((with_reducible first|refine blA ?_ ?_ _|refine blS ?_ ?_ _|refine blT (by assumption) ?_ ?_);focus (go_size;done)))⟩;simp_all)
 by_cases d6 : 9 ≤ op ∧ op ≤ 20
 ·obtain ⟨da,db⟩:=d6
  have q25 : (op == 25) = false:=by rw [beq_eq_false_iff_ne];omega
  have r25 : (op != 25) = true:=by rw [bne_iff_ne];omega
  have q36 : (op == 36) = false:=by rw [beq_eq_false_iff_ne];omega
  have r36 : (op != 36) = true:=by rw [bne_iff_ne];omega
  have q101 : (op == 101) = false:=by rw [beq_eq_false_iff_ne];omega
  have r101 : (op != 101) = true:=by rw [bne_iff_ne];omega
  have q102 : (op == 102) = false:=by rw [beq_eq_false_iff_ne];omega
  have r102 : (op != 102) = true:=by rw [bne_iff_ne];omega
  have q26 : (op == 26) = false:=by rw [beq_eq_false_iff_ne];omega
  have q27 : (op == 27) = false:=by rw [beq_eq_false_iff_ne];omega
  have q8 : (op == 8) = false:=by rw [beq_eq_false_iff_ne];omega
  have q24 : (op == 24) = false:=by rw [beq_eq_false_iff_ne];omega
  have q28 : (op == 28) = false:=by rw [beq_eq_false_iff_ne];omega
  have q37 : (op == 37) = false:=by rw [beq_eq_false_iff_ne];omega
  have q29 : (op == 29) = false:=by rw [beq_eq_false_iff_ne];omega
  have q22 : (op == 22) = false:=by rw [beq_eq_false_iff_ne];omega
  have q35 : (op == 35) = false:=by rw [beq_eq_false_iff_ne];omega
  have q103 : (op == 103) = false:=by rw [beq_eq_false_iff_ne];omega
  have q104 : (op == 104) = false:=by rw [beq_eq_false_iff_ne];omega
  have e : tk op 0 = (2,1,0,0,true):=by
   unfold tk
   repeat (first | rw [if_pos (by omega)] | rw [if_neg (by omega)])
  have hc : cnt op = false:=by unfold cnt;first | rfl | (rw [decide_eq_true_eq];omega) | (rw [decide_eq_false_iff_not];omega)
  rw [e]
  have HK:=Lib.hid (fun W=>rcounted_any op W)
  rw [hc] at HK
  clear e hc
  go_enter Tryd.func23,Tryd.ntmps23
  go_wp2_with (go_at_call 45;with_reducible refine (HK.out _).mono ?_;rintro _ _ ⟨rfl,rfl⟩)
  all_goals refine bodyPost_ret (by simp [results,Tryd.results23,go_sem, *];try rfl) rfl ?_
  all_goals first | exact ⟨rfl,by (repeat' first|(with_reducible first|exact blR _ _|assumption|refine blD ?_|refine blN ?_ _)|((with_reducible first|refine blA ?_ ?_ _|refine blS ?_ ?_ _|refine blT (by assumption) ?_ ?_);focus (go_size;done)))⟩ | (refine ⟨?_,by (repeat' first|(with_reducible first|exact blR _ _|assumption|refine blD ?_|refine blN ?_ _)|((with_reducible first|refine blA ?_ ?_ _|refine blS ?_ ?_ _|refine blT (by assumption) ?_ ?_);focus (go_size;done)))⟩;simp_all)
 by_cases d7 : op = 22
 ·subst d7
  have e : tk 22 0 = (3,1,0,0,true):=by
   unfold tk
   repeat (first | rw [if_pos (by omega)] | rw [if_neg (by omega)])
  have hc : cnt 22 = false:=by unfold cnt;first | rfl | (rw [decide_eq_true_eq];omega) | (rw [decide_eq_false_iff_not];omega)
  rw [e]
  have HK:=Lib.hid (fun W=>rcounted_any 22 W)
  rw [hc] at HK
  clear e hc
  go_enter Tryd.func23,Tryd.ntmps23
  go_wp2_with (go_at_call 45;with_reducible refine (HK.out _).mono ?_;rintro _ _ ⟨rfl,rfl⟩)
  all_goals refine bodyPost_ret (by simp [results,Tryd.results23,go_sem, *];try rfl) rfl ?_
  all_goals first | exact ⟨rfl,by (repeat' first|(with_reducible first|exact blR _ _|assumption|refine blD ?_|refine blN ?_ _)|((with_reducible first|refine blA ?_ ?_ _|refine blS ?_ ?_ _|refine blT (by assumption) ?_ ?_);focus (go_size;done)))⟩ | (refine ⟨?_,by (repeat' first|(with_reducible first|exact blR _ _|assumption|refine blD ?_|refine blN ?_ _)|((with_reducible first|refine blA ?_ ?_ _|refine blS ?_ ?_ _|refine blT (by assumption) ?_ ?_);focus (go_size;done)))⟩;simp_all)
 by_cases d8 : 30 ≤ op ∧ op ≤ 34
 ·obtain ⟨da,db⟩:=d8
  have q25 : (op == 25) = false:=by rw [beq_eq_false_iff_ne];omega
  have r25 : (op != 25) = true:=by rw [bne_iff_ne];omega
  have q36 : (op == 36) = false:=by rw [beq_eq_false_iff_ne];omega
  have r36 : (op != 36) = true:=by rw [bne_iff_ne];omega
  have q101 : (op == 101) = false:=by rw [beq_eq_false_iff_ne];omega
  have r101 : (op != 101) = true:=by rw [bne_iff_ne];omega
  have q102 : (op == 102) = false:=by rw [beq_eq_false_iff_ne];omega
  have r102 : (op != 102) = true:=by rw [bne_iff_ne];omega
  have q26 : (op == 26) = false:=by rw [beq_eq_false_iff_ne];omega
  have q27 : (op == 27) = false:=by rw [beq_eq_false_iff_ne];omega
  have q8 : (op == 8) = false:=by rw [beq_eq_false_iff_ne];omega
  have q24 : (op == 24) = false:=by rw [beq_eq_false_iff_ne];omega
  have q28 : (op == 28) = false:=by rw [beq_eq_false_iff_ne];omega
  have q37 : (op == 37) = false:=by rw [beq_eq_false_iff_ne];omega
  have q29 : (op == 29) = false:=by rw [beq_eq_false_iff_ne];omega
  have q22 : (op == 22) = false:=by rw [beq_eq_false_iff_ne];omega
  have q35 : (op == 35) = false:=by rw [beq_eq_false_iff_ne];omega
  have q103 : (op == 103) = false:=by rw [beq_eq_false_iff_ne];omega
  have q104 : (op == 104) = false:=by rw [beq_eq_false_iff_ne];omega
  have e : tk op 0 = (1,1,0,1,true):=by
   unfold tk
   repeat (first | rw [if_pos (by omega)] | rw [if_neg (by omega)])
  have hc : cnt op = false:=by unfold cnt;first | rfl | (rw [decide_eq_true_eq];omega) | (rw [decide_eq_false_iff_not];omega)
  rw [e]
  have HK:=Lib.hid (fun W=>rcounted_any op W)
  rw [hc] at HK
  clear e hc
  go_enter Tryd.func23,Tryd.ntmps23
  go_wp2_with (go_at_call 45;with_reducible refine (HK.out _).mono ?_;rintro _ _ ⟨rfl,rfl⟩)
  all_goals refine bodyPost_ret (by simp [results,Tryd.results23,go_sem, *];try rfl) rfl ?_
  all_goals first | exact ⟨rfl,by (repeat' first|(with_reducible first|exact blR _ _|assumption|refine blD ?_|refine blN ?_ _)|((with_reducible first|refine blA ?_ ?_ _|refine blS ?_ ?_ _|refine blT (by assumption) ?_ ?_);focus (go_size;done)))⟩ | (refine ⟨?_,by (repeat' first|(with_reducible first|exact blR _ _|assumption|refine blD ?_|refine blN ?_ _)|((with_reducible first|refine blA ?_ ?_ _|refine blS ?_ ?_ _|refine blT (by assumption) ?_ ?_);focus (go_size;done)))⟩;simp_all)
 by_cases d9 : op = 35
 ·subst d9
  have e : tk 35 0 = (2,1,0,1,true):=by
   unfold tk
   repeat (first | rw [if_pos (by omega)] | rw [if_neg (by omega)])
  have hc : cnt 35 = false:=by unfold cnt;first | rfl | (rw [decide_eq_true_eq];omega) | (rw [decide_eq_false_iff_not];omega)
  rw [e]
  have HK:=Lib.hid (fun W=>rcounted_any 35 W)
  rw [hc] at HK
  clear e hc
  go_enter Tryd.func23,Tryd.ntmps23
  go_wp2_with (go_at_call 45;with_reducible refine (HK.out _).mono ?_;rintro _ _ ⟨rfl,rfl⟩)
  all_goals refine bodyPost_ret (by simp [results,Tryd.results23,go_sem, *];try rfl) rfl ?_
  all_goals first | exact ⟨rfl,by (repeat' first|(with_reducible first|exact blR _ _|assumption|refine blD ?_|refine blN ?_ _)|((with_reducible first|refine blA ?_ ?_ _|refine blS ?_ ?_ _|refine blT (by assumption) ?_ ?_);focus (go_size;done)))⟩ | (refine ⟨?_,by (repeat' first|(with_reducible first|exact blR _ _|assumption|refine blD ?_|refine blN ?_ _)|((with_reducible first|refine blA ?_ ?_ _|refine blS ?_ ?_ _|refine blT (by assumption) ?_ ?_);focus (go_size;done)))⟩;simp_all)
 by_cases d10 : op = 103
 ·subst d10
  have e : tk 103 0 = (1,0,1,0,true):=by
   unfold tk
   repeat (first | rw [if_pos (by omega)] | rw [if_neg (by omega)])
  have hc : cnt 103 = false:=by unfold cnt;first | rfl | (rw [decide_eq_true_eq];omega) | (rw [decide_eq_false_iff_not];omega)
  rw [e]
  have HK:=Lib.hid (fun W=>rcounted_any 103 W)
  rw [hc] at HK
  clear e hc
  go_enter Tryd.func23,Tryd.ntmps23
  go_wp2_with (go_at_call 45;with_reducible refine (HK.out _).mono ?_;rintro _ _ ⟨rfl,rfl⟩)
  all_goals refine bodyPost_ret (by simp [results,Tryd.results23,go_sem, *];try rfl) rfl ?_
  all_goals first | exact ⟨rfl,by (repeat' first|(with_reducible first|exact blR _ _|assumption|refine blD ?_|refine blN ?_ _)|((with_reducible first|refine blA ?_ ?_ _|refine blS ?_ ?_ _|refine blT (by assumption) ?_ ?_);focus (go_size;done)))⟩ | (refine ⟨?_,by (repeat' first|(with_reducible first|exact blR _ _|assumption|refine blD ?_|refine blN ?_ _)|((with_reducible first|refine blA ?_ ?_ _|refine blS ?_ ?_ _|refine blT (by assumption) ?_ ?_);focus (go_size;done)))⟩;simp_all)
 by_cases d11 : op = 104
 ·subst d11
  have e : tk 104 0 = (0,0,-1,1,true):=by
   unfold tk
   repeat (first | rw [if_pos (by omega)] | rw [if_neg (by omega)])
  have hc : cnt 104 = false:=by unfold cnt;first | rfl | (rw [decide_eq_true_eq];omega) | (rw [decide_eq_false_iff_not];omega)
  rw [e]
  have HK:=Lib.hid (fun W=>rcounted_any 104 W)
  rw [hc] at HK
  clear e hc
  go_enter Tryd.func23,Tryd.ntmps23
  go_wp2_with (go_at_call 45;with_reducible refine (HK.out _).mono ?_;rintro _ _ ⟨rfl,rfl⟩)
  all_goals refine bodyPost_ret (by simp [results,Tryd.results23,go_sem, *];try rfl) rfl ?_
  all_goals first | exact ⟨rfl,by (repeat' first|(with_reducible first|exact blR _ _|assumption|refine blD ?_|refine blN ?_ _)|((with_reducible first|refine blA ?_ ?_ _|refine blS ?_ ?_ _|refine blT (by assumption) ?_ ?_);focus (go_size;done)))⟩ | (refine ⟨?_,by (repeat' first|(with_reducible first|exact blR _ _|assumption|refine blD ?_|refine blN ?_ _)|((with_reducible first|refine blA ?_ ?_ _|refine blS ?_ ?_ _|refine blT (by assumption) ?_ ?_);focus (go_size;done)))⟩;simp_all)
 by_cases d12 : op = 21
 ·subst d12
  have e : tk 21 0 = (0,0,0,0,false):=by
   unfold tk
   repeat (first | rw [if_pos (by omega)] | rw [if_neg (by omega)])
  have hc : cnt 21 = false:=by unfold cnt;first | rfl | (rw [decide_eq_true_eq];omega) | (rw [decide_eq_false_iff_not];omega)
  rw [e]
  have HK:=Lib.hid (fun W=>rcounted_any 21 W)
  rw [hc] at HK
  clear e hc
  go_enter Tryd.func23,Tryd.ntmps23
  go_wp2_with (go_at_call 45;with_reducible refine (HK.out _).mono ?_;rintro _ _ ⟨rfl,rfl⟩)
  all_goals refine bodyPost_ret (by simp [results,Tryd.results23,go_sem, *];try rfl) rfl ?_
  all_goals first | exact ⟨rfl,by (repeat' first|(with_reducible first|exact blR _ _|assumption|refine blD ?_|refine blN ?_ _)|((with_reducible first|refine blA ?_ ?_ _|refine blS ?_ ?_ _|refine blT (by assumption) ?_ ?_);focus (go_size;done)))⟩ | (refine ⟨?_,by (repeat' first|(with_reducible first|exact blR _ _|assumption|refine blD ?_|refine blN ?_ _)|((with_reducible first|refine blA ?_ ?_ _|refine blS ?_ ?_ _|refine blT (by assumption) ?_ ?_);focus (go_size;done)))⟩;simp_all)
 by_cases d13 : op = 23
 ·subst d13
  have e : tk 23 0 = (0,0,0,0,false):=by
   unfold tk
   repeat (first | rw [if_pos (by omega)] | rw [if_neg (by omega)])
  have hc : cnt 23 = false:=by unfold cnt;first | rfl | (rw [decide_eq_true_eq];omega) | (rw [decide_eq_false_iff_not];omega)
  rw [e]
  have HK:=Lib.hid (fun W=>rcounted_any 23 W)
  rw [hc] at HK
  clear e hc
  go_enter Tryd.func23,Tryd.ntmps23
  go_wp2_with (go_at_call 45;with_reducible refine (HK.out _).mono ?_;rintro _ _ ⟨rfl,rfl⟩)
  all_goals refine bodyPost_ret (by simp [results,Tryd.results23,go_sem, *];try rfl) rfl ?_
  all_goals first | exact ⟨rfl,by (repeat' first|(with_reducible first|exact blR _ _|assumption|refine blD ?_|refine blN ?_ _)|((with_reducible first|refine blA ?_ ?_ _|refine blS ?_ ?_ _|refine blT (by assumption) ?_ ?_);focus (go_size;done)))⟩ | (refine ⟨?_,by (repeat' first|(with_reducible first|exact blR _ _|assumption|refine blD ?_|refine blN ?_ _)|((with_reducible first|refine blA ?_ ?_ _|refine blS ?_ ?_ _|refine blT (by assumption) ?_ ?_);focus (go_size;done)))⟩;simp_all)
 by_cases d14 : op ≤ 0
 ·have tok:=trivial
  have q25 : (op == 25) = false:=by rw [beq_eq_false_iff_ne];omega
  have r25 : (op != 25) = true:=by rw [bne_iff_ne];omega
  have q36 : (op == 36) = false:=by rw [beq_eq_false_iff_ne];omega
  have r36 : (op != 36) = true:=by rw [bne_iff_ne];omega
  have q101 : (op == 101) = false:=by rw [beq_eq_false_iff_ne];omega
  have r101 : (op != 101) = true:=by rw [bne_iff_ne];omega
  have q102 : (op == 102) = false:=by rw [beq_eq_false_iff_ne];omega
  have r102 : (op != 102) = true:=by rw [bne_iff_ne];omega
  have q26 : (op == 26) = false:=by rw [beq_eq_false_iff_ne];omega
  have q27 : (op == 27) = false:=by rw [beq_eq_false_iff_ne];omega
  have q8 : (op == 8) = false:=by rw [beq_eq_false_iff_ne];omega
  have q24 : (op == 24) = false:=by rw [beq_eq_false_iff_ne];omega
  have q28 : (op == 28) = false:=by rw [beq_eq_false_iff_ne];omega
  have q37 : (op == 37) = false:=by rw [beq_eq_false_iff_ne];omega
  have q29 : (op == 29) = false:=by rw [beq_eq_false_iff_ne];omega
  have q22 : (op == 22) = false:=by rw [beq_eq_false_iff_ne];omega
  have q35 : (op == 35) = false:=by rw [beq_eq_false_iff_ne];omega
  have q103 : (op == 103) = false:=by rw [beq_eq_false_iff_ne];omega
  have q104 : (op == 104) = false:=by rw [beq_eq_false_iff_ne];omega
  have e : tk op 0 = (0,0,0,0,false):=by
   unfold tk
   repeat (first | rw [if_pos (by omega)] | rw [if_neg (by omega)])
  have hc : cnt op = false:=by unfold cnt;first | rfl | (rw [decide_eq_true_eq];omega) | (rw [decide_eq_false_iff_not];omega)
  rw [e]
  have HK:=Lib.hid (fun W=>rcounted_any op W)
  rw [hc] at HK
  clear e hc
  go_enter Tryd.func23,Tryd.ntmps23
  go_wp2_with (go_at_call 45;with_reducible refine (HK.out _).mono ?_;rintro _ _ ⟨rfl,rfl⟩)
  all_goals refine bodyPost_ret (by simp [results,Tryd.results23,go_sem, *];try rfl) rfl ?_
  all_goals first | exact ⟨rfl,by (repeat' first|(with_reducible first|exact blR _ _|assumption|refine blD ?_|refine blN ?_ _)|((with_reducible first|refine blA ?_ ?_ _|refine blS ?_ ?_ _|refine blT (by assumption) ?_ ?_);focus (go_size;done)))⟩ | (refine ⟨?_,by (repeat' first|(with_reducible first|exact blR _ _|assumption|refine blD ?_|refine blN ?_ _)|((with_reducible first|refine blA ?_ ?_ _|refine blS ?_ ?_ _|refine blT (by assumption) ?_ ?_);focus (go_size;done)))⟩;simp_all)
 by_cases d15 : 105 ≤ op
 ·have tok:=trivial
  have q25 : (op == 25) = false:=by rw [beq_eq_false_iff_ne];omega
  have r25 : (op != 25) = true:=by rw [bne_iff_ne];omega
  have q36 : (op == 36) = false:=by rw [beq_eq_false_iff_ne];omega
  have r36 : (op != 36) = true:=by rw [bne_iff_ne];omega
  have q101 : (op == 101) = false:=by rw [beq_eq_false_iff_ne];omega
  have r101 : (op != 101) = true:=by rw [bne_iff_ne];omega
  have q102 : (op == 102) = false:=by rw [beq_eq_false_iff_ne];omega
  have r102 : (op != 102) = true:=by rw [bne_iff_ne];omega
  have q26 : (op == 26) = false:=by rw [beq_eq_false_iff_ne];omega
  have q27 : (op == 27) = false:=by rw [beq_eq_false_iff_ne];omega
  have q8 : (op == 8) = false:=by rw [beq_eq_false_iff_ne];omega
  have q24 : (op == 24) = false:=by rw [beq_eq_false_iff_ne];omega
  have q28 : (op == 28) = false:=by rw [beq_eq_false_iff_ne];omega
  have q37 : (op == 37) = false:=by rw [beq_eq_false_iff_ne];omega
  have q29 : (op == 29) = false:=by rw [beq_eq_false_iff_ne];omega
  have q22 : (op == 22) = false:=by rw [beq_eq_false_iff_ne];omega
  have q35 : (op == 35) = false:=by rw [beq_eq_false_iff_ne];omega
  have q103 : (op == 103) = false:=by rw [beq_eq_false_iff_ne];omega
  have q104 : (op == 104) = false:=by rw [beq_eq_false_iff_ne];omega
  have e : tk op 0 = (0,0,0,0,false):=by
   unfold tk
   repeat (first | rw [if_pos (by omega)] | rw [if_neg (by omega)])
  have hc : cnt op = false:=by unfold cnt;first | rfl | (rw [decide_eq_true_eq];omega) | (rw [decide_eq_false_iff_not];omega)
  rw [e]
  have HK:=Lib.hid (fun W=>rcounted_any op W)
  rw [hc] at HK
  clear e hc
  go_enter Tryd.func23,Tryd.ntmps23
  go_wp2_with (go_at_call 45;with_reducible refine (HK.out _).mono ?_;rintro _ _ ⟨rfl,rfl⟩)
  all_goals refine bodyPost_ret (by simp [results,Tryd.results23,go_sem, *];try rfl) rfl ?_
  all_goals first | exact ⟨rfl,by (repeat' first|(with_reducible first|exact blR _ _|assumption|refine blD ?_|refine blN ?_ _)|((with_reducible first|refine blA ?_ ?_ _|refine blS ?_ ?_ _|refine blT (by assumption) ?_ ?_);focus (go_size;done)))⟩ | (refine ⟨?_,by (repeat' first|(with_reducible first|exact blR _ _|assumption|refine blD ?_|refine blN ?_ _)|((with_reducible first|refine blA ?_ ?_ _|refine blS ?_ ?_ _|refine blT (by assumption) ?_ ?_);focus (go_size;done)))⟩;simp_all)
 have da : 38 ≤ op:=by omega
 have db : op ≤ 100:=by omega
 have q25 : (op == 25) = false:=by rw [beq_eq_false_iff_ne];omega
 have r25 : (op != 25) = true:=by rw [bne_iff_ne];omega
 have q36 : (op == 36) = false:=by rw [beq_eq_false_iff_ne];omega
 have r36 : (op != 36) = true:=by rw [bne_iff_ne];omega
 have q101 : (op == 101) = false:=by rw [beq_eq_false_iff_ne];omega
 have r101 : (op != 101) = true:=by rw [bne_iff_ne];omega
 have q102 : (op == 102) = false:=by rw [beq_eq_false_iff_ne];omega
 have r102 : (op != 102) = true:=by rw [bne_iff_ne];omega
 have q26 : (op == 26) = false:=by rw [beq_eq_false_iff_ne];omega
 have q27 : (op == 27) = false:=by rw [beq_eq_false_iff_ne];omega
 have q8 : (op == 8) = false:=by rw [beq_eq_false_iff_ne];omega
 have q24 : (op == 24) = false:=by rw [beq_eq_false_iff_ne];omega
 have q28 : (op == 28) = false:=by rw [beq_eq_false_iff_ne];omega
 have q37 : (op == 37) = false:=by rw [beq_eq_false_iff_ne];omega
 have q29 : (op == 29) = false:=by rw [beq_eq_false_iff_ne];omega
 have q22 : (op == 22) = false:=by rw [beq_eq_false_iff_ne];omega
 have q35 : (op == 35) = false:=by rw [beq_eq_false_iff_ne];omega
 have q103 : (op == 103) = false:=by rw [beq_eq_false_iff_ne];omega
 have q104 : (op == 104) = false:=by rw [beq_eq_false_iff_ne];omega
 have e : tk op 0 = (0,0,0,0,false):=by
  unfold tk
  repeat (first | rw [if_pos (by omega)] | rw [if_neg (by omega)])
 have hc : cnt op = false:=by unfold cnt;first | rfl | (rw [decide_eq_true_eq];omega) | (rw [decide_eq_false_iff_not];omega)
 rw [e]
 have HK:=Lib.hid (fun W=>rcounted_any op W)
 rw [hc] at HK
 clear e hc
 go_enter Tryd.func23,Tryd.ntmps23
 go_wp2_with (go_at_call 45;with_reducible refine (HK.out _).mono ?_;rintro _ _ ⟨rfl,rfl⟩)
 all_goals refine bodyPost_ret (by simp [results,Tryd.results23,go_sem, *];try rfl) rfl ?_
 all_goals first | exact ⟨rfl,by (repeat' first|(with_reducible first|exact blR _ _|assumption|refine blD ?_|refine blN ?_ _)|((with_reducible first|refine blA ?_ ?_ _|refine blS ?_ ?_ _|refine blT (by assumption) ?_ ?_);focus (go_size;done)))⟩ | (refine ⟨?_,by (repeat' first|(with_reducible first|exact blR _ _|assumption|refine blD ?_|refine blN ?_ _)|((with_reducible first|refine blA ?_ ?_ _|refine blS ?_ ?_ _|refine blT (by assumption) ?_ ?_);focus (go_size;done)))⟩;simp_all)
end Go.Proofs.YtnhmplfonkjfoaaDoor



namespace Go.Proofs.YtnhmplfonkjfoaaDoor

def note (S : St) (k : Nat) (x : Way) : Option St :=
 match S.getD k none with
 | none=>some (S.set k (some x))
 | some y=>if y = x then some S else none
def after (op a : Int) (x : Way) : Way:=(x.1 - (tk op a).1 + (tk op a).2.1,x.2 + (tk op a).2.2.1)
def isJ (op : Int) : Bool:=decide (op = 101 ∨ op = 102)
def vGo (n : Nat) (f : Int) : List (Int × Int) → Nat → St → Int → Int × Int
 | [],_,S,m=>if S.getD n none = some (1,f) then (max m 1,0) else (0,2)
 | (op,a) :: r,i,S,m =>
  match S.getD i none with
  | none=>(0,2)
  | some x =>
   if (tk op a).2.2.2.2 = true ∧ (tk op a).1 ≤ x.1 ∧ (tk op a).2.2.2.1 ≤ x.2 then
    match (if isJ op = true then (if (i : Int) < a ∧ a ≤ n then note S a.toNat (after op a x) else none) else some S) with
    | none=>(0,2)
    | some S1 =>
     match (if op = 101 then some S1 else note S1 (i + 1) (after op a x)) with
     | none=>(0,2)
     | some S2=>vGo n f r (i + 1) S2 (max m x.1)
   else (0,2)
def alikeB (l : List Way) : Bool:=match l with | []=>false | x :: r=>r.all fun y=>decide (y = x)
def dGo (n : Nat) (f : Int) : List (Int × Int) → Nat → Wy → Int → Int × Int
 | [],_,W,m=>if alikeB (W.getD n []) = true ∧ (W.getD n []).head? = some (1,f) then (max m 1,0) else (0,2)
 | (op,a) :: r,i,W,m =>
  match (W.getD i []).head? with
  | none=>(0,2)
  | some x =>
   if (tk op a).2.2.2.2 = true ∧ alikeB (W.getD i []) = true ∧ (tk op a).1 ≤ x.1 ∧ (tk op a).2.2.2.1 ≤ x.2 then
    if isJ op = true ∧ ¬ ((i : Int) < a ∧ a ≤ n) then (0,2)
    else
     let W1:=if isJ op = true then put W a.toNat (after op a x) else W
     let W2:=if op = 101 then W1 else put W1 (i + 1) (after op a x)
     dGo n f r (i + 1) W2 (max m x.1)
   else (0,2)
theorem bad_not {l : List Way} (h : Bad l) : alikeB l = false:=by
 obtain ⟨x,y,hx,hy,hn⟩:=h
 cases l with
 | nil=>cases hx
 | cons z r =>
  cases hb : alikeB (z :: r) with
  | false=>rfl
  | true =>
   exfalso
   simp only [alikeB,List.all_eq_true,decide_eq_true_eq] at hb
   have e : ∀ q,q ∈ z :: r → q = z:=fun q hq=>by
    rcases List.mem_cons.1 hq with rfl | hq
    ·rfl
    ·exact hb q hq
   exact hn ((e x hx).trans (e y hy).symm)
theorem dGo_bad (n : Nat) (f : Int) : ∀ (is : List (Int × Int)) (i : Nat) (W : Wy) (m : Int),i + is.length = n → W.length = n + 1 → (∃ j,i ≤ j ∧ j ≤ n ∧ Bad (W.getD j [])) → dGo n f is i W m = (0,2):=by
 intro is
 induction is with
 | nil =>
  intro i W m hi hW ⟨j,h1,h2,h3⟩
  obtain rfl : j = n:=by simp at hi;omega
  unfold dGo
  rw [if_neg (fun h=>by rw [bad_not h3] at h;exact Bool.noConfusion h.1)]
 | cons p r ih =>
  intro i W m hi hW ⟨j,h1,h2,h3⟩
  obtain ⟨op,a⟩:=p
  simp only [List.length_cons] at hi
  unfold dGo
  split
  ·rfl
  ·rename_i x hx
   split
   ·rename_i hc
    have hij : i ≠ j:=fun e=>by subst e;rw [bad_not h3] at hc;exact Bool.noConfusion hc.2.1
    split
    ·rfl
    ·rename_i hb
     have hb' : isJ op = true → a.toNat < W.length:=fun h=>by
      have:=Classical.not_not.1 fun hn=>hb ⟨h,hn⟩
      omega
     have b1 : Bad ((if isJ op = true then put W a.toNat (after op a x) else W).getD j []):=by
      split
      ·rename_i hj;exact h3.put (hb' hj)
      ·exact h3
     have l1 : (if isJ op = true then put W a.toNat (after op a x) else W).length = n + 1:=by split <;> simp [put_length,hW]
     refine ih _ _ _ (by omega) ?_ ⟨j,by omega,h2, ?_⟩
     ·split
      ·exact l1
      ·rw [put_length];exact l1
     ·split
      ·exact b1
      ·exact b1.put (by omega)
   ·rfl
theorem alike_of {l : List Way} {x : Way} (h : l ≠ []) (ha : ∀ y,y ∈ l → y = x) : alikeB l = true ∧ l.head? = some x:=by
 cases l with
 | nil=>exact absurd rfl h
 | cons z r =>
  have hz:=ha z (List.mem_cons_self ..)
  subst hz
  refine ⟨?_,rfl⟩
  simp only [alikeB,List.all_eq_true,decide_eq_true_eq]
  exact fun y hy=>ha y (List.mem_cons_of_mem _ hy)
theorem note_rel {i k : Nat} {S : St} {W : Wy} {x : Way} (h : Rel i S W) (hk : k < W.length) (hS : S.length = W.length) (hik : i ≤ k) :
  (∃ S',note S k x = some S' ∧ S'.length = S.length ∧ Rel i S' (put W k x)) ∨ (note S k x = none ∧ Bad ((put W k x).getD k [])):=by
 unfold note
 obtain ⟨h1,h2⟩:=h k hik
 split
 ·rename_i e
  refine .inl ⟨_,rfl,by simp,fun j hj=>?_⟩
  rw [getD_put W k j x hk,getD_setO S k j _ (by omega)]
  split
  ·rename_i e2;subst e2
   rw [h1 e]
   exact ⟨fun hh=>by simp at hh,fun y hy=>by injection hy with hy;subst hy;exact ⟨by simp,fun z hz=>by simpa using hz⟩⟩
  ·exact h j hj
 ·rename_i y e
  obtain ⟨h3,h4⟩:=h2 y e
  split
  ·rename_i e2;subst e2
   refine .inl ⟨_,rfl,rfl,fun j hj=>?_⟩
   rw [getD_put W k j _ hk]
   split
   ·rename_i e3;subst e3
    rw [e]
    exact ⟨fun hh=>by simp at hh,fun z hz=>by
     injection hz with hz;subst hz
     exact ⟨by simp,fun q hq=>by
      rcases List.mem_append.1 hq with hq | hq
      ·exact h4 q hq
      ·simpa using hq⟩⟩
   ·exact h j hj
  ·rename_i hne
   refine .inr ⟨rfl, ?_⟩
   rw [getD_put W k k x hk,if_pos rfl]
   cases hl : W.getD k [] with
   | nil=>exact absurd hl h3
   | cons z r =>
    have hz : z = y:=h4 z (by rw [hl];exact List.mem_cons_self ..)
    subst hz
    exact ⟨z,x,by simp,by simp,hne⟩
theorem go_eq (n : Nat) (f : Int) : ∀ (is : List (Int × Int)) (i : Nat) (S : St) (W : Wy) (m : Int),i + is.length = n → S.length = n + 1 → W.length = n + 1 → Rel i S W → vGo n f is i S m = dGo n f is i W m:=by
 intro is
 induction is with
 | nil =>
  intro i S W m hi hS hW h
  obtain rfl : i = n:=by simpa using hi
  obtain ⟨h1,h2⟩:=h i (Nat.le_refl _)
  unfold vGo dGo
  cases e : S.getD i none with
  | none=>rw [h1 e];simp
  | some x =>
   obtain ⟨h3,h4⟩:=alike_of (h2 x e).1 (h2 x e).2
   rw [h3,h4]
   simp
 | cons p r ih =>
  intro i S W m hi hS hW h
  obtain ⟨op,a⟩:=p
  simp only [List.length_cons] at hi
  obtain ⟨h1,h2⟩:=h i (Nat.le_refl _)
  unfold vGo dGo
  cases e : S.getD i none with
  | none=>rw [h1 e];rfl
  | some x =>
   obtain ⟨h3,h4⟩:=alike_of (h2 x e).1 (h2 x e).2
   rw [h3,h4]
   dsimp only
   by_cases hc : (tk op a).2.2.2.2 = true ∧ (tk op a).1 ≤ x.1 ∧ (tk op a).2.2.2.1 ≤ x.2
   ·rw [if_pos hc,if_pos (show (tk op a).2.2.2.2 = true ∧ true = true ∧ (tk op a).1 ≤ x.1 ∧ (tk op a).2.2.2.1 ≤ x.2 from ⟨hc.1,rfl,hc.2⟩)]
    obtain ⟨y,hy⟩ : ∃ y,y = after op a x:=⟨_,rfl⟩
    rw [← hy]
    have tail : ∀ (S1 : St) (W1 : Wy),S1.length = n + 1 → W1.length = n + 1 → Rel i S1 W1 →
      (match (if op = 101 then some S1 else note S1 (i + 1) y) with | none=>((0 : Int),(2 : Int)) | some S2=>vGo n f r (i + 1) S2 (max m x.1)) = dGo n f r (i + 1) (if op = 101 then W1 else put W1 (i + 1) y) (max m x.1):=by
     intro S1 W1 s1 w1 hr
     by_cases ho : op = 101
     ·rw [if_pos ho,if_pos ho]
      exact ih _ _ _ _ (by omega) s1 w1 (hr.mono (by omega))
     ·rw [if_neg ho,if_neg ho]
      rcases note_rel (x:=y) (k:=i + 1) hr (by omega) (by omega) (by omega) with ⟨S2,q1,q2,q3⟩ | ⟨q1,q2⟩
      ·rw [q1]
       exact ih _ _ _ _ (by omega) (by omega) (by rw [put_length];exact w1) (q3.mono (by omega))
      ·rw [q1]
       exact (dGo_bad n f r (i + 1) _ _ (by omega) (by rw [put_length];exact w1) ⟨i + 1,Nat.le_refl _,by omega,q2⟩).symm
    by_cases hj : isJ op = true
    ·rw [if_pos hj]
     by_cases hb : (i : Int) < a ∧ a ≤ n
     ·rw [if_pos hb,if_neg (show ¬ (isJ op = true ∧ ¬ ((i : Int) < a ∧ a ≤ n)) from fun hh=>hh.2 hb),if_pos hj]
      rcases note_rel (x:=y) (k:=a.toNat) h (by omega) (by omega) (by omega) with ⟨S2,q1,q2,q3⟩ | ⟨q1,q2⟩
      ·rw [q1]
       exact tail S2 _ (by omega) (by rw [put_length];exact hW) q3
      ·rw [q1]
       dsimp only
       refine (dGo_bad n f r (i + 1) _ _ (by omega) ?_ ⟨a.toNat,by omega,by omega, ?_⟩).symm
       ·split
        ·rw [put_length];exact hW
        ·rw [put_length,put_length];exact hW
       ·split
        ·exact q2
        ·exact q2.put (by rw [put_length];omega)
     ·rw [if_neg hb,if_pos ⟨hj,hb⟩]
    ·rw [if_neg hj,if_neg (show ¬ (isJ op = true ∧ ¬ ((i : Int) < a ∧ a ≤ n)) from fun hh=>hj hh.1),if_neg hj]
     exact tail S W hS hW h
   ·rw [if_neg hc,if_neg (show ¬ ((tk op a).2.2.2.2 = true ∧ true = true ∧ (tk op a).1 ≤ x.1 ∧ (tk op a).2.2.2.1 ≤ x.2) from fun hh=>hc ⟨hh.1,hh.2.2⟩)]
def verS (is : List (Int × Int)) (f : Int) : Int × Int:=if 600 < is.length then (0,6) else vGo is.length f is 0 (some (0,f) :: List.replicate is.length none) 0
def docS (is : List (Int × Int)) (f : Int) : Int × Int:=if 600 < is.length then (0,6) else dGo is.length f is 0 ([(0,f)] :: List.replicate is.length []) 0
theorem ver_doc (is : List (Int × Int)) (f : Int) : verS is f = docS is f:=by
 unfold verS docS
 split
 ·rfl
 ·refine go_eq _ _ _ _ _ _ _ (by omega) (by simp) (by simp) fun k _=>?_
  cases k with
  | zero=>exact ⟨fun h=>by simp at h,fun x hx=>by simp at hx;subst hx;exact ⟨by simp,fun y hy=>by simpa using hy⟩⟩
  | succ k =>
   have e1 : ((some (0,f) : Option Way) :: List.replicate is.length none).getD (k + 1) none = none:=by
    rw [List.getD_eq_getElem?_getD,List.getElem?_cons_succ,List.getElem?_replicate];split <;> rfl
   have e2 : (([(0,f)] : List Way) :: List.replicate is.length []).getD (k + 1) [] = []:=by
    rw [List.getD_eq_getElem?_getD,List.getElem?_cons_succ,List.getElem?_replicate];split <;> rfl
   rw [e1,e2]
   exact ⟨fun _=>rfl,fun x hx=>by simp at hx⟩
def TB (a : Int) (z : Int × Int × Int × Int × Bool) : Prop:=z.2.2.2.2 = true → 0 ≤ z.1 ∧ 0 ≤ z.2.1 ∧ z.2.1 ≤ 1 ∧ -1 ≤ z.2.2.1 ∧ z.2.2.1 ≤ 1 ∧ 0 ≤ z.2.2.2.1 ∧ z.2.2.2.1 ≤ 1 ∧ (z.1 = a ∨ z.1 ≤ 3)
theorem TB.ite {a : Int} {c : Prop} [Decidable c] {x y : Int × Int × Int × Int × Bool} (h : c → TB a x) (k : ¬ c → TB a y) : TB a (if c then x else y):=by
 by_cases hc : c
 ·rw [if_pos hc];exact h hc
 ·rw [if_neg hc];exact k hc
theorem tk_TB (op a : Int) : TB a (tk op a):=by
 unfold tk
 (repeat' (refine TB.ite (fun _=>?_) (fun _=>?_))) <;> (unfold TB;intro h;first | (exact Bool.noConfusion h) | (refine ⟨?_, ?_, ?_, ?_, ?_, ?_, ?_, ?_⟩ <;> dsimp only <;> omega))
theorem tk_bounds {op a : Int} (h : (tk op a).2.2.2.2 = true) : 0 ≤ (tk op a).1 ∧ 0 ≤ (tk op a).2.1 ∧ (tk op a).2.1 ≤ 1 ∧ -1 ≤ (tk op a).2.2.1 ∧ (tk op a).2.2.1 ≤ 1 ∧ 0 ≤ (tk op a).2.2.2.1 ∧ (tk op a).2.2.2.1 ≤ 1 ∧ ((tk op a).1 = a ∨ (tk op a).1 ≤ 3):=tk_TB op a h
def InB (i : Nat) (x : Way) : Prop:=0 ≤ x.1 ∧ x.1 ≤ i ∧ -(i : Int) ≤ x.2 ∧ x.2 ≤ i + 1
theorem InB.next {i : Nat} {x : Way} {op a : Int} (h : InB i x) (hk : (tk op a).2.2.2.2 = true) (h1 : (tk op a).1 ≤ x.1) : InB (i + 1) (after op a x):=by
 obtain ⟨b1,b2,b3,b4,b5,_⟩:=tk_bounds hk
 obtain ⟨c1,c2,c3,c4⟩:=h
 unfold after
 refine ⟨?_, ?_, ?_, ?_⟩ <;> dsimp only <;> omega
theorem InB.up {i : Nat} {x : Way} (h : InB i x) : InB (i + 1) x:=by obtain ⟨c1,c2,c3,c4⟩:=h;exact ⟨c1,by omega,by omega,by omega⟩
section
variable {n i : Nat} {f op a m : Int} {r : List (Int × Int)} {S S1 S2 : St} {x : Way}
theorem vGo_none (h : S.getD i none = none) : vGo n f ((op,a) :: r) i S m = (0,2):=by unfold vGo;rw [h]
theorem vGo_bad (h : S.getD i none = some x) (hc : ¬ ((tk op a).2.2.2.2 = true ∧ (tk op a).1 ≤ x.1 ∧ (tk op a).2.2.2.1 ≤ x.2)) : vGo n f ((op,a) :: r) i S m = (0,2):=by
 unfold vGo;rw [h];dsimp only;rw [if_neg hc]
theorem vGo_out (h : S.getD i none = some x) (hc : (tk op a).2.2.2.2 = true ∧ (tk op a).1 ≤ x.1 ∧ (tk op a).2.2.2.1 ≤ x.2) (hj : isJ op = true) (hb : ¬ ((i : Int) < a ∧ a ≤ n)) : vGo n f ((op,a) :: r) i S m = (0,2):=by
 unfold vGo;rw [h];dsimp only;rw [if_pos hc,if_pos hj,if_neg hb]
theorem vGo_un (h : S.getD i none = some x) (hc : (tk op a).2.2.2.2 = true ∧ (tk op a).1 ≤ x.1 ∧ (tk op a).2.2.2.1 ≤ x.2) (hj : isJ op = true) (hb : (i : Int) < a ∧ a ≤ n) (hn : note S a.toNat (after op a x) = none) : vGo n f ((op,a) :: r) i S m = (0,2):=by
 unfold vGo;rw [h];dsimp only;rw [if_pos hc,if_pos hj,if_pos hb,hn]
def vTail (n : Nat) (f : Int) (op a : Int) (r : List (Int × Int)) (i : Nat) (S1 : St) (m : Int) (x : Way) : Int × Int :=
 match (if op = 101 then some S1 else note S1 (i + 1) (after op a x)) with
 | none=>(0,2)
 | some S2=>vGo n f r (i + 1) S2 (max m x.1)
theorem vGo_jump (h : S.getD i none = some x) (hc : (tk op a).2.2.2.2 = true ∧ (tk op a).1 ≤ x.1 ∧ (tk op a).2.2.2.1 ≤ x.2) (hj : isJ op = true) (hb : (i : Int) < a ∧ a ≤ n) (hn : note S a.toNat (after op a x) = some S1) : vGo n f ((op,a) :: r) i S m = vTail n f op a r i S1 m x:=by
 unfold vTail
 rw [vGo];rw [h];dsimp only;rw [if_pos hc,if_pos hj,if_pos hb,hn]
theorem vGo_plain (h : S.getD i none = some x) (hc : (tk op a).2.2.2.2 = true ∧ (tk op a).1 ≤ x.1 ∧ (tk op a).2.2.2.1 ≤ x.2) (hj : isJ op = false) : vGo n f ((op,a) :: r) i S m = vTail n f op a r i S m x:=by
 unfold vTail
 rw [vGo];rw [h];dsimp only;rw [if_pos hc,hj];rfl
theorem vTail_101 : vTail n f 101 a r i S1 m x = vGo n f r (i + 1) S1 (max m x.1):=rfl
theorem vTail_un (ho : op ≠ 101) (hn : note S1 (i + 1) (after op a x) = none) : vTail n f op a r i S1 m x = (0,2):=by unfold vTail;rw [if_neg ho,hn]
theorem vTail_go (ho : op ≠ 101) (hn : note S1 (i + 1) (after op a x) = some S2) : vTail n f op a r i S1 m x = vGo n f r (i + 1) S2 (max m x.1):=by unfold vTail;rw [if_neg ho,hn]
end
theorem note_length {S S' : St} {k : Nat} {x : Way} (h : note S k x = some S') : S'.length = S.length:=by
 unfold note at h
 split at h
 ·injection h with h;subst h;simp
 ·split at h
  ·injection h with h;subst h;rfl
  ·cases h
theorem note_inB {S S' : St} {k i : Nat} {x : Way} (h : note S k x = some S') (hk : k < S.length) (hS : ∀ j y,S.getD j none = some y → InB i y) (hx : InB i x) : ∀ j y,S'.getD j none = some y → InB i y:=by
 intro j y hy
 unfold note at h
 split at h
 ·injection h with h;subst h
  rw [getD_setO S k j _ hk] at hy
  split at hy
  ·injection hy with hy;subst hy;exact hx
  ·exact hS j y hy
 ·split at h
  ·injection h with h;subst h;exact hS j y hy
  ·cases h
end Go.Proofs.YtnhmplfonkjfoaaDoor



namespace Go.Proofs.YtnhmplfonkjfoaaDoor
open Go.RowKit

section
variable {w w' : World} {o o' : Nat → Nat} {l g : Nat} {S : St} {T : Nat → Prop}
theorem Stt.lab (h : Stt w o l g S) : o g = l:=by obtain ⟨cs,h1,h2⟩:=h;exact h1.2
end
def ReachPost (w : World) (o : Nat → Nat) (l g : Nat) (S : St) (k : Nat) (x : Way) (e : Ending) (w' : World) : Prop :=
 Turn (· = l) w o w' o ∧ ((∃ S',note S k x = some S' ∧ e = .returned (.bool true) ∧ Stt w' o l g S') ∨ (note S k x = none ∧ e = .returned (.bool false)))
set_option maxRecDepth 100000 in
theorem eq_state (a b : Bool) (c d e f : Int) (W : World) : (binOp .eql 60 (.agg #[.bool a,.int .i64 c,.int .i64 e]) (.agg #[.bool b,.int .i64 d,.int .i64 f])).run Tryd.prog W = .ok (.bool (a == b && (c == d && e == f))) W:=by
 go_simp
 by_cases h0 : a = b <;> by_cases h1 : c = d <;> by_cases h2 : e = f <;> simp [h0,h1,h2]
set_option maxRecDepth 100000 in
theorem neq_state (a b : Bool) (c d e f : Int) (W : World) : (binOp .neq 60 (.agg #[.bool a,.int .i64 c,.int .i64 e]) (.agg #[.bool b,.int .i64 d,.int .i64 f])).run Tryd.prog W = .ok (.bool (!(a == b && (c == d && e == f)))) W:=by
 go_simp
 by_cases h0 : a = b <;> by_cases h1 : c = d <;> by_cases h2 : e = f <;> simp [h0,h1,h2]
set_option maxHeartbeats 1000000 in
theorem reach_any (w : World) (o : Nat → Nat) (l g : Nat) (S : St) (h : Stt w o l g S) (k : Nat) (hk : k < S.length) (x : Way) :
  Calls Tryd.prog 26 #[.pointer (some ⟨g,k * 3,none⟩),.int .i64 x.1,.int .i64 x.2] w (ReachPost w o l g S k x):=by
 obtain ⟨c0,c1,c2⟩:=h.cells hk
 have hlt:=h.lt
 have f0:=h.frozen (k * 3)
 have f1:=h.frozen (k * 3 + 1)
 have f2:=h.frozen (k * 3 + 2)
 have HS:=Lib.hid h
 obtain ⟨x1,x2⟩:=x
 cases e : S.getD k none with
 | none =>
  rw [e] at c0 c1 c2
  have HN : Hid (note S k (x1,x2) = some (S.set k (some (x1,x2)))):=Lib.hid (by unfold note;rw [e])
  dsimp only [oB,oH,oE,Option.isSome,Option.getD] at c0 c1 c2
  clear h e
  go_enter Tryd.func26,Tryd.ntmps26
  go_wp2_with fail
  go_ret
  refine ⟨?_,.inl ⟨_,HN.out,rfl, ?_⟩⟩
  ·exact (((((Turn.refl (· = l) w o).setCell (.inr HS.out.lab) _).setCell (.inr HS.out.lab) _).setCell (.inr HS.out.lab) _).alloc _)
  ·exact (HS.out.store hk (x1,x2)).alloc _
 | some y =>
  rw [e] at c0 c1 c2
  obtain ⟨y1,y2⟩:=y
  dsimp only [oB,oH,oE,Option.isSome,Option.getD] at c0 c1 c2
  have r1 : ∀ W,(binOp .eql 60 (.agg #[.bool true,.int .i64 y1,.int .i64 y2]) (.agg #[.bool true,.int .i64 x1,.int .i64 x2])).run Tryd.prog W = .ok (.bool (y1 == x1 && y2 == x2)) W:=fun W=>by rw [eq_state];rfl
  have HN : Hid (note S k (x1,x2) = if (y1 == x1 && y2 == x2) = true then some S else none):=Lib.hid (by
   unfold note;rw [e];dsimp only
   by_cases h1 : y1 = x1 <;> by_cases h2 : y2 = x2 <;> simp [h1,h2])
  generalize (y1 == x1 && y2 == x2) = b at *
  clear h e
  go_enter Tryd.func26,Tryd.ntmps26
  go_wp2_with fail
  go_quiet (fail)
  go_wp2_with fail
  go_ret
  refine ⟨(Turn.refl (· = l) w o).alloc _ |>.drewN _, ?_⟩
  have hn:=HN.out
  cases b with
  | true=>exact .inl ⟨_,hn,rfl,(HS.out.alloc _).drewN _⟩
  | false=>exact .inr ⟨hn,rfl⟩
end Go.Proofs.YtnhmplfonkjfoaaDoor



namespace Go.Proofs.YtnhmplfonkjfoaaDoor
open Go.RowKit

set_option maxHeartbeats 4000000 in
theorem effect_any (op a : Int) (tx : ByteArray) (ng : Bool) (hi lo sc dy : Int) (w : World) : Calls Tryd.prog 25 #[.agg #[.int .i64 op,.int .i64 a,.string tx,.bool ng,.int .u64 hi,.int .u64 lo,.int .i64 sc,.int .i64 dy]] w fun e w'=>e = .returned (.tuple #[.agg #[.int .i64 (tk op a).1,.int .i64 (tk op a).2.1,.int .i64 (tk op a).2.2.1,.int .i64 (tk op a).2.2.2.1],.bool (tk op a).2.2.2.2]) ∧ Below w.heap.size w w':=by
 rcases Int.lt_or_le a 0 with h0 | h0
 ·have tok:=trivial
  have e : tk op a = (0,0,0,0,false):=by
   unfold tk
   repeat (first | rw [if_pos (by omega)] | rw [if_neg (by omega)])
  have hc : cnt op = cnt op:=by unfold cnt;first | rfl | (rw [decide_eq_true_eq];omega) | (rw [decide_eq_false_iff_not];omega)
  rw [e]
  have HK:=Lib.hid (fun W=>counted_any op W)
  rw [hc] at HK
  clear e hc
  go_enter Tryd.func25,Tryd.ntmps25
  go_wp2_with (go_at_call 44;with_reducible refine (HK.out _).mono ?_;rintro _ _ ⟨rfl,rfl⟩)
  all_goals refine bodyPost_ret (by simp [results,Tryd.results25,go_sem, *];try rfl) rfl ?_
  all_goals first | exact ⟨rfl,by (repeat' first|(with_reducible first|exact blR _ _|assumption|refine blD ?_|refine blN ?_ _)|((with_reducible first|refine blA ?_ ?_ _|refine blS ?_ ?_ _|refine blT (by assumption) ?_ ?_);focus (go_size;done)))⟩ | (refine ⟨?_,by (repeat' first|(with_reducible first|exact blR _ _|assumption|refine blD ?_|refine blN ?_ _)|((with_reducible first|refine blA ?_ ?_ _|refine blS ?_ ?_ _|refine blT (by assumption) ?_ ?_);focus (go_size;done)))⟩;simp_all)
 by_cases c1 : op = 25
 ·subst c1
  by_cases c2 : 8 < a
  ·have tok:=trivial
   have e : tk 25 a = (0,0,0,0,false):=by
    unfold tk
    repeat (first | rw [if_pos (by omega)] | rw [if_neg (by omega)])
   have hc : cnt 25 = true:=by unfold cnt;first | rfl | (rw [decide_eq_true_eq];omega) | (rw [decide_eq_false_iff_not];omega)
   rw [e]
   have HK:=Lib.hid (fun W=>counted_any 25 W)
   rw [hc] at HK
   clear e hc
   go_enter Tryd.func25,Tryd.ntmps25
   go_wp2_with (go_at_call 44;with_reducible refine (HK.out _).mono ?_;rintro _ _ ⟨rfl,rfl⟩)
   all_goals refine bodyPost_ret (by simp [results,Tryd.results25,go_sem, *];try rfl) rfl ?_
   all_goals first | exact ⟨rfl,by (repeat' first|(with_reducible first|exact blR _ _|assumption|refine blD ?_|refine blN ?_ _)|((with_reducible first|refine blA ?_ ?_ _|refine blS ?_ ?_ _|refine blT (by assumption) ?_ ?_);focus (go_size;done)))⟩ | (refine ⟨?_,by (repeat' first|(with_reducible first|exact blR _ _|assumption|refine blD ?_|refine blN ?_ _)|((with_reducible first|refine blA ?_ ?_ _|refine blS ?_ ?_ _|refine blT (by assumption) ?_ ?_);focus (go_size;done)))⟩;simp_all)
  ·have c3 : a ≤ 8:=by omega
   have e : tk 25 a = (a,1,0,0,true):=by
    unfold tk
    repeat (first | rw [if_pos (by omega)] | rw [if_neg (by omega)])
   have hc : cnt 25 = true:=by unfold cnt;first | rfl | (rw [decide_eq_true_eq];omega) | (rw [decide_eq_false_iff_not];omega)
   rw [e]
   have HK:=Lib.hid (fun W=>counted_any 25 W)
   rw [hc] at HK
   clear e hc
   go_enter Tryd.func25,Tryd.ntmps25
   go_wp2_with (go_at_call 44;with_reducible refine (HK.out _).mono ?_;rintro _ _ ⟨rfl,rfl⟩)
   all_goals refine bodyPost_ret (by simp [results,Tryd.results25,go_sem, *];try rfl) rfl ?_
   all_goals first | exact ⟨rfl,by (repeat' first|(with_reducible first|exact blR _ _|assumption|refine blD ?_|refine blN ?_ _)|((with_reducible first|refine blA ?_ ?_ _|refine blS ?_ ?_ _|refine blT (by assumption) ?_ ?_);focus (go_size;done)))⟩ | (refine ⟨?_,by (repeat' first|(with_reducible first|exact blR _ _|assumption|refine blD ?_|refine blN ?_ _)|((with_reducible first|refine blA ?_ ?_ _|refine blS ?_ ?_ _|refine blT (by assumption) ?_ ?_);focus (go_size;done)))⟩;simp_all)
 by_cases c2 : op = 36
 ·subst c2
  by_cases c2 : a < 1
  ·have tok:=trivial
   have e : tk 36 a = (0,0,0,0,false):=by
    unfold tk
    repeat (first | rw [if_pos (by omega)] | rw [if_neg (by omega)])
   have hc : cnt 36 = true:=by unfold cnt;first | rfl | (rw [decide_eq_true_eq];omega) | (rw [decide_eq_false_iff_not];omega)
   rw [e]
   have HK:=Lib.hid (fun W=>counted_any 36 W)
   rw [hc] at HK
   clear e hc
   go_enter Tryd.func25,Tryd.ntmps25
   go_wp2_with (go_at_call 44;with_reducible refine (HK.out _).mono ?_;rintro _ _ ⟨rfl,rfl⟩)
   all_goals refine bodyPost_ret (by simp [results,Tryd.results25,go_sem, *];try rfl) rfl ?_
   all_goals first | exact ⟨rfl,by (repeat' first|(with_reducible first|exact blR _ _|assumption|refine blD ?_|refine blN ?_ _)|((with_reducible first|refine blA ?_ ?_ _|refine blS ?_ ?_ _|refine blT (by assumption) ?_ ?_);focus (go_size;done)))⟩ | (refine ⟨?_,by (repeat' first|(with_reducible first|exact blR _ _|assumption|refine blD ?_|refine blN ?_ _)|((with_reducible first|refine blA ?_ ?_ _|refine blS ?_ ?_ _|refine blT (by assumption) ?_ ?_);focus (go_size;done)))⟩;simp_all)
  ·have c3 : 1 ≤ a:=by omega
   have e : tk 36 a = (a,1,0,0,true):=by
    unfold tk
    repeat (first | rw [if_pos (by omega)] | rw [if_neg (by omega)])
   have hc : cnt 36 = true:=by unfold cnt;first | rfl | (rw [decide_eq_true_eq];omega) | (rw [decide_eq_false_iff_not];omega)
   rw [e]
   have HK:=Lib.hid (fun W=>counted_any 36 W)
   rw [hc] at HK
   clear e hc
   go_enter Tryd.func25,Tryd.ntmps25
   go_wp2_with (go_at_call 44;with_reducible refine (HK.out _).mono ?_;rintro _ _ ⟨rfl,rfl⟩)
   all_goals refine bodyPost_ret (by simp [results,Tryd.results25,go_sem, *];try rfl) rfl ?_
   all_goals first | exact ⟨rfl,by (repeat' first|(with_reducible first|exact blR _ _|assumption|refine blD ?_|refine blN ?_ _)|((with_reducible first|refine blA ?_ ?_ _|refine blS ?_ ?_ _|refine blT (by assumption) ?_ ?_);focus (go_size;done)))⟩ | (refine ⟨?_,by (repeat' first|(with_reducible first|exact blR _ _|assumption|refine blD ?_|refine blN ?_ _)|((with_reducible first|refine blA ?_ ?_ _|refine blS ?_ ?_ _|refine blT (by assumption) ?_ ?_);focus (go_size;done)))⟩;simp_all)
 by_cases c3 : op = 26
 ·subst c3
  have e : tk 26 a = (a,1,0,0,true):=by
   unfold tk
   repeat (first | rw [if_pos (by omega)] | rw [if_neg (by omega)])
  have hc : cnt 26 = true:=by unfold cnt;first | rfl | (rw [decide_eq_true_eq];omega) | (rw [decide_eq_false_iff_not];omega)
  rw [e]
  have HK:=Lib.hid (fun W=>counted_any 26 W)
  rw [hc] at HK
  clear e hc
  go_enter Tryd.func25,Tryd.ntmps25
  go_wp2_with (go_at_call 44;with_reducible refine (HK.out _).mono ?_;rintro _ _ ⟨rfl,rfl⟩)
  all_goals refine bodyPost_ret (by simp [results,Tryd.results25,go_sem, *];try rfl) rfl ?_
  all_goals first | exact ⟨rfl,by (repeat' first|(with_reducible first|exact blR _ _|assumption|refine blD ?_|refine blN ?_ _)|((with_reducible first|refine blA ?_ ?_ _|refine blS ?_ ?_ _|refine blT (by assumption) ?_ ?_);focus (go_size;done)))⟩ | (refine ⟨?_,by (repeat' first|(with_reducible first|exact blR _ _|assumption|refine blD ?_|refine blN ?_ _)|((with_reducible first|refine blA ?_ ?_ _|refine blS ?_ ?_ _|refine blT (by assumption) ?_ ?_);focus (go_size;done)))⟩;simp_all)
 by_cases c4 : op = 27
 ·subst c4
  have e : tk 27 a = (a,1,0,0,true):=by
   unfold tk
   repeat (first | rw [if_pos (by omega)] | rw [if_neg (by omega)])
  have hc : cnt 27 = true:=by unfold cnt;first | rfl | (rw [decide_eq_true_eq];omega) | (rw [decide_eq_false_iff_not];omega)
  rw [e]
  have HK:=Lib.hid (fun W=>counted_any 27 W)
  rw [hc] at HK
  clear e hc
  go_enter Tryd.func25,Tryd.ntmps25
  go_wp2_with (go_at_call 44;with_reducible refine (HK.out _).mono ?_;rintro _ _ ⟨rfl,rfl⟩)
  all_goals refine bodyPost_ret (by simp [results,Tryd.results25,go_sem, *];try rfl) rfl ?_
  all_goals first | exact ⟨rfl,by (repeat' first|(with_reducible first|exact blR _ _|assumption|refine blD ?_|refine blN ?_ _)|((with_reducible first|refine blA ?_ ?_ _|refine blS ?_ ?_ _|refine blT (by assumption) ?_ ?_);focus (go_size;done)))⟩ | (refine ⟨?_,by (repeat' first|(with_reducible first|exact blR _ _|assumption|refine blD ?_|refine blN ?_ _)|((with_reducible first|refine blA ?_ ?_ _|refine blS ?_ ?_ _|refine blT (by assumption) ?_ ?_);focus (go_size;done)))⟩;simp_all)
 by_cases c5 : op = 101
 ·subst c5
  have e : tk 101 a = (0,0,0,0,true):=by
   unfold tk
   repeat (first | rw [if_pos (by omega)] | rw [if_neg (by omega)])
  have hc : cnt 101 = false:=by unfold cnt;first | rfl | (rw [decide_eq_true_eq];omega) | (rw [decide_eq_false_iff_not];omega)
  rw [e]
  have HK:=Lib.hid (fun W=>counted_any 101 W)
  rw [hc] at HK
  clear e hc
  go_enter Tryd.func25,Tryd.ntmps25
  go_wp2_with (go_at_call 44;with_reducible refine (HK.out _).mono ?_;rintro _ _ ⟨rfl,rfl⟩)
  all_goals refine bodyPost_ret (by simp [results,Tryd.results25,go_sem, *];try rfl) rfl ?_
  all_goals first | exact ⟨rfl,by (repeat' first|(with_reducible first|exact blR _ _|assumption|refine blD ?_|refine blN ?_ _)|((with_reducible first|refine blA ?_ ?_ _|refine blS ?_ ?_ _|refine blT (by assumption) ?_ ?_);focus (go_size;done)))⟩ | (refine ⟨?_,by (repeat' first|(with_reducible first|exact blR _ _|assumption|refine blD ?_|refine blN ?_ _)|((with_reducible first|refine blA ?_ ?_ _|refine blS ?_ ?_ _|refine blT (by assumption) ?_ ?_);focus (go_size;done)))⟩;simp_all)
 by_cases c6 : op = 102
 ·subst c6
  have e : tk 102 a = (1,0,0,0,true):=by
   unfold tk
   repeat (first | rw [if_pos (by omega)] | rw [if_neg (by omega)])
  have hc : cnt 102 = false:=by unfold cnt;first | rfl | (rw [decide_eq_true_eq];omega) | (rw [decide_eq_false_iff_not];omega)
  rw [e]
  have HK:=Lib.hid (fun W=>counted_any 102 W)
  rw [hc] at HK
  clear e hc
  go_enter Tryd.func25,Tryd.ntmps25
  go_wp2_with (go_at_call 44;with_reducible refine (HK.out _).mono ?_;rintro _ _ ⟨rfl,rfl⟩)
  all_goals refine bodyPost_ret (by simp [results,Tryd.results25,go_sem, *];try rfl) rfl ?_
  all_goals first | exact ⟨rfl,by (repeat' first|(with_reducible first|exact blR _ _|assumption|refine blD ?_|refine blN ?_ _)|((with_reducible first|refine blA ?_ ?_ _|refine blS ?_ ?_ _|refine blT (by assumption) ?_ ?_);focus (go_size;done)))⟩ | (refine ⟨?_,by (repeat' first|(with_reducible first|exact blR _ _|assumption|refine blD ?_|refine blN ?_ _)|((with_reducible first|refine blA ?_ ?_ _|refine blS ?_ ?_ _|refine blT (by assumption) ?_ ?_);focus (go_size;done)))⟩;simp_all)
 by_cases c7 : a ≠ 0
 ·have tok:=trivial
  have q25 : (op == 25) = false:=by rw [beq_eq_false_iff_ne];omega
  have r25 : (op != 25) = true:=by rw [bne_iff_ne];omega
  have q36 : (op == 36) = false:=by rw [beq_eq_false_iff_ne];omega
  have r36 : (op != 36) = true:=by rw [bne_iff_ne];omega
  have q101 : (op == 101) = false:=by rw [beq_eq_false_iff_ne];omega
  have r101 : (op != 101) = true:=by rw [bne_iff_ne];omega
  have q102 : (op == 102) = false:=by rw [beq_eq_false_iff_ne];omega
  have r102 : (op != 102) = true:=by rw [bne_iff_ne];omega
  have ra : (a != 0) = true:=by rw [bne_iff_ne];omega
  have e : tk op a = (0,0,0,0,false):=by
   unfold tk
   repeat (first | rw [if_pos (by omega)] | rw [if_neg (by omega)])
  have hc : cnt op = false:=by unfold cnt;first | rfl | (rw [decide_eq_true_eq];omega) | (rw [decide_eq_false_iff_not];omega)
  rw [e]
  have HK:=Lib.hid (fun W=>counted_any op W)
  rw [hc] at HK
  clear e hc
  go_enter Tryd.func25,Tryd.ntmps25
  go_wp2_with (go_at_call 44;with_reducible refine (HK.out _).mono ?_;rintro _ _ ⟨rfl,rfl⟩)
  all_goals refine bodyPost_ret (by simp [results,Tryd.results25,go_sem, *];try rfl) rfl ?_
  all_goals first | exact ⟨rfl,by (repeat' first|(with_reducible first|exact blR _ _|assumption|refine blD ?_|refine blN ?_ _)|((with_reducible first|refine blA ?_ ?_ _|refine blS ?_ ?_ _|refine blT (by assumption) ?_ ?_);focus (go_size;done)))⟩ | (refine ⟨?_,by (repeat' first|(with_reducible first|exact blR _ _|assumption|refine blD ?_|refine blN ?_ _)|((with_reducible first|refine blA ?_ ?_ _|refine blS ?_ ?_ _|refine blT (by assumption) ?_ ?_);focus (go_size;done)))⟩;simp_all)
 obtain rfl : a = 0:=by omega
 by_cases d0 : op = 29
 ·subst d0
  have e : tk 29 0 = (0,1,0,0,true):=by
   unfold tk
   repeat (first | rw [if_pos (by omega)] | rw [if_neg (by omega)])
  have hc : cnt 29 = false:=by unfold cnt;first | rfl | (rw [decide_eq_true_eq];omega) | (rw [decide_eq_false_iff_not];omega)
  rw [e]
  have HK:=Lib.hid (fun W=>counted_any 29 W)
  rw [hc] at HK
  clear e hc
  go_enter Tryd.func25,Tryd.ntmps25
  go_wp2_with (go_at_call 44;with_reducible refine (HK.out _).mono ?_;rintro _ _ ⟨rfl,rfl⟩)
  all_goals refine bodyPost_ret (by simp [results,Tryd.results25,go_sem, *];try rfl) rfl ?_
  all_goals first | exact ⟨rfl,by (repeat' first|(with_reducible first|exact blR _ _|assumption|refine blD ?_|refine blN ?_ _)|((with_reducible first|refine blA ?_ ?_ _|refine blS ?_ ?_ _|refine blT (by assumption) ?_ ?_);focus (go_size;done)))⟩ | (refine ⟨?_,by (repeat' first|(with_reducible first|exact blR _ _|assumption|refine blD ?_|refine blN ?_ _)|((with_reducible first|refine blA ?_ ?_ _|refine blS ?_ ?_ _|refine blT (by assumption) ?_ ?_);focus (go_size;done)))⟩;simp_all)
 by_cases d1 : 1 ≤ op ∧ op ≤ 7
 ·obtain ⟨da,db⟩:=d1
  have q25 : (op == 25) = false:=by rw [beq_eq_false_iff_ne];omega
  have r25 : (op != 25) = true:=by rw [bne_iff_ne];omega
  have q36 : (op == 36) = false:=by rw [beq_eq_false_iff_ne];omega
  have r36 : (op != 36) = true:=by rw [bne_iff_ne];omega
  have q101 : (op == 101) = false:=by rw [beq_eq_false_iff_ne];omega
  have r101 : (op != 101) = true:=by rw [bne_iff_ne];omega
  have q102 : (op == 102) = false:=by rw [beq_eq_false_iff_ne];omega
  have r102 : (op != 102) = true:=by rw [bne_iff_ne];omega
  have q26 : (op == 26) = false:=by rw [beq_eq_false_iff_ne];omega
  have q27 : (op == 27) = false:=by rw [beq_eq_false_iff_ne];omega
  have q8 : (op == 8) = false:=by rw [beq_eq_false_iff_ne];omega
  have q24 : (op == 24) = false:=by rw [beq_eq_false_iff_ne];omega
  have q28 : (op == 28) = false:=by rw [beq_eq_false_iff_ne];omega
  have q37 : (op == 37) = false:=by rw [beq_eq_false_iff_ne];omega
  have q29 : (op == 29) = false:=by rw [beq_eq_false_iff_ne];omega
  have q22 : (op == 22) = false:=by rw [beq_eq_false_iff_ne];omega
  have q35 : (op == 35) = false:=by rw [beq_eq_false_iff_ne];omega
  have q103 : (op == 103) = false:=by rw [beq_eq_false_iff_ne];omega
  have q104 : (op == 104) = false:=by rw [beq_eq_false_iff_ne];omega
  have e : tk op 0 = (0,1,0,0,true):=by
   unfold tk
   repeat (first | rw [if_pos (by omega)] | rw [if_neg (by omega)])
  have hc : cnt op = false:=by unfold cnt;first | rfl | (rw [decide_eq_true_eq];omega) | (rw [decide_eq_false_iff_not];omega)
  rw [e]
  have HK:=Lib.hid (fun W=>counted_any op W)
  rw [hc] at HK
  clear e hc
  go_enter Tryd.func25,Tryd.ntmps25
  go_wp2_with (go_at_call 44;with_reducible refine (HK.out _).mono ?_;rintro _ _ ⟨rfl,rfl⟩)
  all_goals refine bodyPost_ret (by simp [results,Tryd.results25,go_sem, *];try rfl) rfl ?_
  all_goals first | exact ⟨rfl,by (repeat' first|(with_reducible first|exact blR _ _|assumption|refine blD ?_|refine blN ?_ _)|((with_reducible first|refine blA ?_ ?_ _|refine blS ?_ ?_ _|refine blT (by assumption) ?_ ?_);focus (go_size;done)))⟩ | (refine ⟨?_,by (repeat' first|(with_reducible first|exact blR _ _|assumption|refine blD ?_|refine blN ?_ _)|((with_reducible first|refine blA ?_ ?_ _|refine blS ?_ ?_ _|refine blT (by assumption) ?_ ?_);focus (go_size;done)))⟩;simp_all)
 by_cases d2 : op = 8
 ·subst d2
  have e : tk 8 0 = (1,1,0,0,true):=by
   unfold tk
   repeat (first | rw [if_pos (by omega)] | rw [if_neg (by omega)])
  have hc : cnt 8 = false:=by unfold cnt;first | rfl | (rw [decide_eq_true_eq];omega) | (rw [decide_eq_false_iff_not];omega)
  rw [e]
  have HK:=Lib.hid (fun W=>counted_any 8 W)
  rw [hc] at HK
  clear e hc
  go_enter Tryd.func25,Tryd.ntmps25
  go_wp2_with (go_at_call 44;with_reducible refine (HK.out _).mono ?_;rintro _ _ ⟨rfl,rfl⟩)
  all_goals refine bodyPost_ret (by simp [results,Tryd.results25,go_sem, *];try rfl) rfl ?_
  all_goals first | exact ⟨rfl,by (repeat' first|(with_reducible first|exact blR _ _|assumption|refine blD ?_|refine blN ?_ _)|((with_reducible first|refine blA ?_ ?_ _|refine blS ?_ ?_ _|refine blT (by assumption) ?_ ?_);focus (go_size;done)))⟩ | (refine ⟨?_,by (repeat' first|(with_reducible first|exact blR _ _|assumption|refine blD ?_|refine blN ?_ _)|((with_reducible first|refine blA ?_ ?_ _|refine blS ?_ ?_ _|refine blT (by assumption) ?_ ?_);focus (go_size;done)))⟩;simp_all)
 by_cases d3 : op = 24
 ·subst d3
  have e : tk 24 0 = (1,1,0,0,true):=by
   unfold tk
   repeat (first | rw [if_pos (by omega)] | rw [if_neg (by omega)])
  have hc : cnt 24 = false:=by unfold cnt;first | rfl | (rw [decide_eq_true_eq];omega) | (rw [decide_eq_false_iff_not];omega)
  rw [e]
  have HK:=Lib.hid (fun W=>counted_any 24 W)
  rw [hc] at HK
  clear e hc
  go_enter Tryd.func25,Tryd.ntmps25
  go_wp2_with (go_at_call 44;with_reducible refine (HK.out _).mono ?_;rintro _ _ ⟨rfl,rfl⟩)
  all_goals refine bodyPost_ret (by simp [results,Tryd.results25,go_sem, *];try rfl) rfl ?_
  all_goals first | exact ⟨rfl,by (repeat' first|(with_reducible first|exact blR _ _|assumption|refine blD ?_|refine blN ?_ _)|((with_reducible first|refine blA ?_ ?_ _|refine blS ?_ ?_ _|refine blT (by assumption) ?_ ?_);focus (go_size;done)))⟩ | (refine ⟨?_,by (repeat' first|(with_reducible first|exact blR _ _|assumption|refine blD ?_|refine blN ?_ _)|((with_reducible first|refine blA ?_ ?_ _|refine blS ?_ ?_ _|refine blT (by assumption) ?_ ?_);focus (go_size;done)))⟩;simp_all)
 by_cases d4 : op = 28
 ·subst d4
  have e : tk 28 0 = (1,1,0,0,true):=by
   unfold tk
   repeat (first | rw [if_pos (by omega)] | rw [if_neg (by omega)])
  have hc : cnt 28 = false:=by unfold cnt;first | rfl | (rw [decide_eq_true_eq];omega) | (rw [decide_eq_false_iff_not];omega)
  rw [e]
  have HK:=Lib.hid (fun W=>counted_any 28 W)
  rw [hc] at HK
  clear e hc
  go_enter Tryd.func25,Tryd.ntmps25
  go_wp2_with (go_at_call 44;with_reducible refine (HK.out _).mono ?_;rintro _ _ ⟨rfl,rfl⟩)
  all_goals refine bodyPost_ret (by simp [results,Tryd.results25,go_sem, *];try rfl) rfl ?_
  all_goals first | exact ⟨rfl,by (repeat' first|(with_reducible first|exact blR _ _|assumption|refine blD ?_|refine blN ?_ _)|((with_reducible first|refine blA ?_ ?_ _|refine blS ?_ ?_ _|refine blT (by assumption) ?_ ?_);focus (go_size;done)))⟩ | (refine ⟨?_,by (repeat' first|(with_reducible first|exact blR _ _|assumption|refine blD ?_|refine blN ?_ _)|((with_reducible first|refine blA ?_ ?_ _|refine blS ?_ ?_ _|refine blT (by assumption) ?_ ?_);focus (go_size;done)))⟩;simp_all)
 by_cases d5 : op = 37
 ·subst d5
  have e : tk 37 0 = (1,1,0,0,true):=by
   unfold tk
   repeat (first | rw [if_pos (by omega)] | rw [if_neg (by omega)])
  have hc : cnt 37 = false:=by unfold cnt;first | rfl | (rw [decide_eq_true_eq];omega) | (rw [decide_eq_false_iff_not];omega)
  rw [e]
  have HK:=Lib.hid (fun W=>counted_any 37 W)
  rw [hc] at HK
  clear e hc
  go_enter Tryd.func25,Tryd.ntmps25
  go_wp2_with (go_at_call 44;with_reducible refine (HK.out _).mono ?_;rintro _ _ ⟨rfl,rfl⟩)
  all_goals refine bodyPost_ret (by simp [results,Tryd.results25,go_sem, *];try rfl) rfl ?_
  all_goals first | exact ⟨rfl,by (repeat' first|(with_reducible first|exact blR _ _|assumption|refine blD ?_|refine blN ?_ _)|((with_reducible first|refine blA ?_ ?_ _|refine blS ?_ ?_ _|refine blT (by assumption) ?_ ?_);focus (go_size;done)))⟩ | (refine ⟨?_,by (repeat' first|(with_reducible first|exact blR _ _|assumption|refine blD ?_|refine blN ?_ _)|((with_reducible first|refine blA ?_ ?_ _|refine blS ?_ ?_ _|refine blT (by assumption) ?_ ?_);focus (go_size;done)))⟩;simp_all)
 by_cases d6 : 9 ≤ op ∧ op ≤ 20
 ·obtain ⟨da,db⟩:=d6
  have q25 : (op == 25) = false:=by rw [beq_eq_false_iff_ne];omega
  have r25 : (op != 25) = true:=by rw [bne_iff_ne];omega
  have q36 : (op == 36) = false:=by rw [beq_eq_false_iff_ne];omega
  have r36 : (op != 36) = true:=by rw [bne_iff_ne];omega
  have q101 : (op == 101) = false:=by rw [beq_eq_false_iff_ne];omega
  have r101 : (op != 101) = true:=by rw [bne_iff_ne];omega
  have q102 : (op == 102) = false:=by rw [beq_eq_false_iff_ne];omega
  have r102 : (op != 102) = true:=by rw [bne_iff_ne];omega
  have q26 : (op == 26) = false:=by rw [beq_eq_false_iff_ne];omega
  have q27 : (op == 27) = false:=by rw [beq_eq_false_iff_ne];omega
  have q8 : (op == 8) = false:=by rw [beq_eq_false_iff_ne];omega
  have q24 : (op == 24) = false:=by rw [beq_eq_false_iff_ne];omega
  have q28 : (op == 28) = false:=by rw [beq_eq_false_iff_ne];omega
  have q37 : (op == 37) = false:=by rw [beq_eq_false_iff_ne];omega
  have q29 : (op == 29) = false:=by rw [beq_eq_false_iff_ne];omega
  have q22 : (op == 22) = false:=by rw [beq_eq_false_iff_ne];omega
  have q35 : (op == 35) = false:=by rw [beq_eq_false_iff_ne];omega
  have q103 : (op == 103) = false:=by rw [beq_eq_false_iff_ne];omega
  have q104 : (op == 104) = false:=by rw [beq_eq_false_iff_ne];omega
  have e : tk op 0 = (2,1,0,0,true):=by
   unfold tk
   repeat (first | rw [if_pos (by omega)] | rw [if_neg (by omega)])
  have hc : cnt op = false:=by unfold cnt;first | rfl | (rw [decide_eq_true_eq];omega) | (rw [decide_eq_false_iff_not];omega)
  rw [e]
  have HK:=Lib.hid (fun W=>counted_any op W)
  rw [hc] at HK
  clear e hc
  go_enter Tryd.func25,Tryd.ntmps25
  go_wp2_with (go_at_call 44;with_reducible refine (HK.out _).mono ?_;rintro _ _ ⟨rfl,rfl⟩)
  all_goals refine bodyPost_ret (by simp [results,Tryd.results25,go_sem, *];try rfl) rfl ?_
  all_goals first | exact ⟨rfl,by (repeat' first|(with_reducible first|exact blR _ _|assumption|refine blD ?_|refine blN ?_ _)|((with_reducible first|refine blA ?_ ?_ _|refine blS ?_ ?_ _|refine blT (by assumption) ?_ ?_);focus (go_size;done)))⟩ | (refine ⟨?_,by (repeat' first|(with_reducible first|exact blR _ _|assumption|refine blD ?_|refine blN ?_ _)|((with_reducible first|refine blA ?_ ?_ _|refine blS ?_ ?_ _|refine blT (by assumption) ?_ ?_);focus (go_size;done)))⟩;simp_all)
 by_cases d7 : op = 22
 ·subst d7
  have e : tk 22 0 = (3,1,0,0,true):=by
   unfold tk
   repeat (first | rw [if_pos (by omega)] | rw [if_neg (by omega)])
  have hc : cnt 22 = false:=by unfold cnt;first | rfl | (rw [decide_eq_true_eq];omega) | (rw [decide_eq_false_iff_not];omega)
  rw [e]
  have HK:=Lib.hid (fun W=>counted_any 22 W)
  rw [hc] at HK
  clear e hc
  go_enter Tryd.func25,Tryd.ntmps25
  go_wp2_with (go_at_call 44;with_reducible refine (HK.out _).mono ?_;rintro _ _ ⟨rfl,rfl⟩)
  all_goals refine bodyPost_ret (by simp [results,Tryd.results25,go_sem, *];try rfl) rfl ?_
  all_goals first | exact ⟨rfl,by (repeat' first|(with_reducible first|exact blR _ _|assumption|refine blD ?_|refine blN ?_ _)|((with_reducible first|refine blA ?_ ?_ _|refine blS ?_ ?_ _|refine blT (by assumption) ?_ ?_);focus (go_size;done)))⟩ | (refine ⟨?_,by (repeat' first|(with_reducible first|exact blR _ _|assumption|refine blD ?_|refine blN ?_ _)|((with_reducible first|refine blA ?_ ?_ _|refine blS ?_ ?_ _|refine blT (by assumption) ?_ ?_);focus (go_size;done)))⟩;simp_all)
 by_cases d8 : 30 ≤ op ∧ op ≤ 34
 ·obtain ⟨da,db⟩:=d8
  have q25 : (op == 25) = false:=by rw [beq_eq_false_iff_ne];omega
  have r25 : (op != 25) = true:=by rw [bne_iff_ne];omega
  have q36 : (op == 36) = false:=by rw [beq_eq_false_iff_ne];omega
  have r36 : (op != 36) = true:=by rw [bne_iff_ne];omega
  have q101 : (op == 101) = false:=by rw [beq_eq_false_iff_ne];omega
  have r101 : (op != 101) = true:=by rw [bne_iff_ne];omega
  have q102 : (op == 102) = false:=by rw [beq_eq_false_iff_ne];omega
  have r102 : (op != 102) = true:=by rw [bne_iff_ne];omega
  have q26 : (op == 26) = false:=by rw [beq_eq_false_iff_ne];omega
  have q27 : (op == 27) = false:=by rw [beq_eq_false_iff_ne];omega
  have q8 : (op == 8) = false:=by rw [beq_eq_false_iff_ne];omega
  have q24 : (op == 24) = false:=by rw [beq_eq_false_iff_ne];omega
  have q28 : (op == 28) = false:=by rw [beq_eq_false_iff_ne];omega
  have q37 : (op == 37) = false:=by rw [beq_eq_false_iff_ne];omega
  have q29 : (op == 29) = false:=by rw [beq_eq_false_iff_ne];omega
  have q22 : (op == 22) = false:=by rw [beq_eq_false_iff_ne];omega
  have q35 : (op == 35) = false:=by rw [beq_eq_false_iff_ne];omega
  have q103 : (op == 103) = false:=by rw [beq_eq_false_iff_ne];omega
  have q104 : (op == 104) = false:=by rw [beq_eq_false_iff_ne];omega
  have e : tk op 0 = (1,1,0,1,true):=by
   unfold tk
   repeat (first | rw [if_pos (by omega)] | rw [if_neg (by omega)])
  have hc : cnt op = false:=by unfold cnt;first | rfl | (rw [decide_eq_true_eq];omega) | (rw [decide_eq_false_iff_not];omega)
  rw [e]
  have HK:=Lib.hid (fun W=>counted_any op W)
  rw [hc] at HK
  clear e hc
  go_enter Tryd.func25,Tryd.ntmps25
  go_wp2_with (go_at_call 44;with_reducible refine (HK.out _).mono ?_;rintro _ _ ⟨rfl,rfl⟩)
  all_goals refine bodyPost_ret (by simp [results,Tryd.results25,go_sem, *];try rfl) rfl ?_
  all_goals first | exact ⟨rfl,by (repeat' first|(with_reducible first|exact blR _ _|assumption|refine blD ?_|refine blN ?_ _)|((with_reducible first|refine blA ?_ ?_ _|refine blS ?_ ?_ _|refine blT (by assumption) ?_ ?_);focus (go_size;done)))⟩ | (refine ⟨?_,by (repeat' first|(with_reducible first|exact blR _ _|assumption|refine blD ?_|refine blN ?_ _)|((with_reducible first|refine blA ?_ ?_ _|refine blS ?_ ?_ _|refine blT (by assumption) ?_ ?_);focus (go_size;done)))⟩;simp_all)
 by_cases d9 : op = 35
 ·subst d9
  have e : tk 35 0 = (2,1,0,1,true):=by
   unfold tk
   repeat (first | rw [if_pos (by omega)] | rw [if_neg (by omega)])
  have hc : cnt 35 = false:=by unfold cnt;first | rfl | (rw [decide_eq_true_eq];omega) | (rw [decide_eq_false_iff_not];omega)
  rw [e]
  have HK:=Lib.hid (fun W=>counted_any 35 W)
  rw [hc] at HK
  clear e hc
  go_enter Tryd.func25,Tryd.ntmps25
  go_wp2_with (go_at_call 44;with_reducible refine (HK.out _).mono ?_;rintro _ _ ⟨rfl,rfl⟩)
  all_goals refine bodyPost_ret (by simp [results,Tryd.results25,go_sem, *];try rfl) rfl ?_
  all_goals first | exact ⟨rfl,by (repeat' first|(with_reducible first|exact blR _ _|assumption|refine blD ?_|refine blN ?_ _)|((with_reducible first|refine blA ?_ ?_ _|refine blS ?_ ?_ _|refine blT (by assumption) ?_ ?_);focus (go_size;done)))⟩ | (refine ⟨?_,by (repeat' first|(with_reducible first|exact blR _ _|assumption|refine blD ?_|refine blN ?_ _)|((with_reducible first|refine blA ?_ ?_ _|refine blS ?_ ?_ _|refine blT (by assumption) ?_ ?_);focus (go_size;done)))⟩;simp_all)
 by_cases d10 : op = 103
 ·subst d10
  have e : tk 103 0 = (1,0,1,0,true):=by
   unfold tk
   repeat (first | rw [if_pos (by omega)] | rw [if_neg (by omega)])
  have hc : cnt 103 = false:=by unfold cnt;first | rfl | (rw [decide_eq_true_eq];omega) | (rw [decide_eq_false_iff_not];omega)
  rw [e]
  have HK:=Lib.hid (fun W=>counted_any 103 W)
  rw [hc] at HK
  clear e hc
  go_enter Tryd.func25,Tryd.ntmps25
  go_wp2_with (go_at_call 44;with_reducible refine (HK.out _).mono ?_;rintro _ _ ⟨rfl,rfl⟩)
  all_goals refine bodyPost_ret (by simp [results,Tryd.results25,go_sem, *];try rfl) rfl ?_
  all_goals first | exact ⟨rfl,by (repeat' first|(with_reducible first|exact blR _ _|assumption|refine blD ?_|refine blN ?_ _)|((with_reducible first|refine blA ?_ ?_ _|refine blS ?_ ?_ _|refine blT (by assumption) ?_ ?_);focus (go_size;done)))⟩ | (refine ⟨?_,by (repeat' first|(with_reducible first|exact blR _ _|assumption|refine blD ?_|refine blN ?_ _)|((with_reducible first|refine blA ?_ ?_ _|refine blS ?_ ?_ _|refine blT (by assumption) ?_ ?_);focus (go_size;done)))⟩;simp_all)
 by_cases d11 : op = 104
 ·subst d11
  have e : tk 104 0 = (0,0,-1,1,true):=by
   unfold tk
   repeat (first | rw [if_pos (by omega)] | rw [if_neg (by omega)])
  have hc : cnt 104 = false:=by unfold cnt;first | rfl | (rw [decide_eq_true_eq];omega) | (rw [decide_eq_false_iff_not];omega)
  rw [e]
  have HK:=Lib.hid (fun W=>counted_any 104 W)
  rw [hc] at HK
  clear e hc
  go_enter Tryd.func25,Tryd.ntmps25
  go_wp2_with (go_at_call 44;with_reducible refine (HK.out _).mono ?_;rintro _ _ ⟨rfl,rfl⟩)
  all_goals refine bodyPost_ret (by simp [results,Tryd.results25,go_sem, *];try rfl) rfl ?_
  all_goals first | exact ⟨rfl,by (repeat' first|(with_reducible first|exact blR _ _|assumption|refine blD ?_|refine blN ?_ _)|((with_reducible first|refine blA ?_ ?_ _|refine blS ?_ ?_ _|refine blT (by assumption) ?_ ?_);focus (go_size;done)))⟩ | (refine ⟨?_,by (repeat' first|(with_reducible first|exact blR _ _|assumption|refine blD ?_|refine blN ?_ _)|((with_reducible first|refine blA ?_ ?_ _|refine blS ?_ ?_ _|refine blT (by assumption) ?_ ?_);focus (go_size;done)))⟩;simp_all)
 by_cases d12 : op = 21
 ·subst d12
  have e : tk 21 0 = (0,0,0,0,false):=by
   unfold tk
   repeat (first | rw [if_pos (by omega)] | rw [if_neg (by omega)])
  have hc : cnt 21 = false:=by unfold cnt;first | rfl | (rw [decide_eq_true_eq];omega) | (rw [decide_eq_false_iff_not];omega)
  rw [e]
  have HK:=Lib.hid (fun W=>counted_any 21 W)
  rw [hc] at HK
  clear e hc
  go_enter Tryd.func25,Tryd.ntmps25
  go_wp2_with (go_at_call 44;with_reducible refine (HK.out _).mono ?_;rintro _ _ ⟨rfl,rfl⟩)
  all_goals refine bodyPost_ret (by simp [results,Tryd.results25,go_sem, *];try rfl) rfl ?_
  all_goals first | exact ⟨rfl,by (repeat' first|(with_reducible first|exact blR _ _|assumption|refine blD ?_|refine blN ?_ _)|((with_reducible first|refine blA ?_ ?_ _|refine blS ?_ ?_ _|refine blT (by assumption) ?_ ?_);focus (go_size;done)))⟩ | (refine ⟨?_,by (repeat' first|(with_reducible first|exact blR _ _|assumption|refine blD ?_|refine blN ?_ _)|((with_reducible first|refine blA ?_ ?_ _|refine blS ?_ ?_ _|refine blT (by assumption) ?_ ?_);focus (go_size;done)))⟩;simp_all)
 by_cases d13 : op = 23
 ·subst d13
  have e : tk 23 0 = (0,0,0,0,false):=by
   unfold tk
   repeat (first | rw [if_pos (by omega)] | rw [if_neg (by omega)])
  have hc : cnt 23 = false:=by unfold cnt;first | rfl | (rw [decide_eq_true_eq];omega) | (rw [decide_eq_false_iff_not];omega)
  rw [e]
  have HK:=Lib.hid (fun W=>counted_any 23 W)
  rw [hc] at HK
  clear e hc
  go_enter Tryd.func25,Tryd.ntmps25
  go_wp2_with (go_at_call 44;with_reducible refine (HK.out _).mono ?_;rintro _ _ ⟨rfl,rfl⟩)
  all_goals refine bodyPost_ret (by simp [results,Tryd.results25,go_sem, *];try rfl) rfl ?_
  all_goals first | exact ⟨rfl,by (repeat' first|(with_reducible first|exact blR _ _|assumption|refine blD ?_|refine blN ?_ _)|((with_reducible first|refine blA ?_ ?_ _|refine blS ?_ ?_ _|refine blT (by assumption) ?_ ?_);focus (go_size;done)))⟩ | (refine ⟨?_,by (repeat' first|(with_reducible first|exact blR _ _|assumption|refine blD ?_|refine blN ?_ _)|((with_reducible first|refine blA ?_ ?_ _|refine blS ?_ ?_ _|refine blT (by assumption) ?_ ?_);focus (go_size;done)))⟩;simp_all)
 by_cases d14 : op ≤ 0
 ·have tok:=trivial
  have q25 : (op == 25) = false:=by rw [beq_eq_false_iff_ne];omega
  have r25 : (op != 25) = true:=by rw [bne_iff_ne];omega
  have q36 : (op == 36) = false:=by rw [beq_eq_false_iff_ne];omega
  have r36 : (op != 36) = true:=by rw [bne_iff_ne];omega
  have q101 : (op == 101) = false:=by rw [beq_eq_false_iff_ne];omega
  have r101 : (op != 101) = true:=by rw [bne_iff_ne];omega
  have q102 : (op == 102) = false:=by rw [beq_eq_false_iff_ne];omega
  have r102 : (op != 102) = true:=by rw [bne_iff_ne];omega
  have q26 : (op == 26) = false:=by rw [beq_eq_false_iff_ne];omega
  have q27 : (op == 27) = false:=by rw [beq_eq_false_iff_ne];omega
  have q8 : (op == 8) = false:=by rw [beq_eq_false_iff_ne];omega
  have q24 : (op == 24) = false:=by rw [beq_eq_false_iff_ne];omega
  have q28 : (op == 28) = false:=by rw [beq_eq_false_iff_ne];omega
  have q37 : (op == 37) = false:=by rw [beq_eq_false_iff_ne];omega
  have q29 : (op == 29) = false:=by rw [beq_eq_false_iff_ne];omega
  have q22 : (op == 22) = false:=by rw [beq_eq_false_iff_ne];omega
  have q35 : (op == 35) = false:=by rw [beq_eq_false_iff_ne];omega
  have q103 : (op == 103) = false:=by rw [beq_eq_false_iff_ne];omega
  have q104 : (op == 104) = false:=by rw [beq_eq_false_iff_ne];omega
  have e : tk op 0 = (0,0,0,0,false):=by
   unfold tk
   repeat (first | rw [if_pos (by omega)] | rw [if_neg (by omega)])
  have hc : cnt op = false:=by unfold cnt;first | rfl | (rw [decide_eq_true_eq];omega) | (rw [decide_eq_false_iff_not];omega)
  rw [e]
  have HK:=Lib.hid (fun W=>counted_any op W)
  rw [hc] at HK
  clear e hc
  go_enter Tryd.func25,Tryd.ntmps25
  go_wp2_with (go_at_call 44;with_reducible refine (HK.out _).mono ?_;rintro _ _ ⟨rfl,rfl⟩)
  all_goals refine bodyPost_ret (by simp [results,Tryd.results25,go_sem, *];try rfl) rfl ?_
  all_goals first | exact ⟨rfl,by (repeat' first|(with_reducible first|exact blR _ _|assumption|refine blD ?_|refine blN ?_ _)|((with_reducible first|refine blA ?_ ?_ _|refine blS ?_ ?_ _|refine blT (by assumption) ?_ ?_);focus (go_size;done)))⟩ | (refine ⟨?_,by (repeat' first|(with_reducible first|exact blR _ _|assumption|refine blD ?_|refine blN ?_ _)|((with_reducible first|refine blA ?_ ?_ _|refine blS ?_ ?_ _|refine blT (by assumption) ?_ ?_);focus (go_size;done)))⟩;simp_all)
 by_cases d15 : 105 ≤ op
 ·have tok:=trivial
  have q25 : (op == 25) = false:=by rw [beq_eq_false_iff_ne];omega
  have r25 : (op != 25) = true:=by rw [bne_iff_ne];omega
  have q36 : (op == 36) = false:=by rw [beq_eq_false_iff_ne];omega
  have r36 : (op != 36) = true:=by rw [bne_iff_ne];omega
  have q101 : (op == 101) = false:=by rw [beq_eq_false_iff_ne];omega
  have r101 : (op != 101) = true:=by rw [bne_iff_ne];omega
  have q102 : (op == 102) = false:=by rw [beq_eq_false_iff_ne];omega
  have r102 : (op != 102) = true:=by rw [bne_iff_ne];omega
  have q26 : (op == 26) = false:=by rw [beq_eq_false_iff_ne];omega
  have q27 : (op == 27) = false:=by rw [beq_eq_false_iff_ne];omega
  have q8 : (op == 8) = false:=by rw [beq_eq_false_iff_ne];omega
  have q24 : (op == 24) = false:=by rw [beq_eq_false_iff_ne];omega
  have q28 : (op == 28) = false:=by rw [beq_eq_false_iff_ne];omega
  have q37 : (op == 37) = false:=by rw [beq_eq_false_iff_ne];omega
  have q29 : (op == 29) = false:=by rw [beq_eq_false_iff_ne];omega
  have q22 : (op == 22) = false:=by rw [beq_eq_false_iff_ne];omega
  have q35 : (op == 35) = false:=by rw [beq_eq_false_iff_ne];omega
  have q103 : (op == 103) = false:=by rw [beq_eq_false_iff_ne];omega
  have q104 : (op == 104) = false:=by rw [beq_eq_false_iff_ne];omega
  have e : tk op 0 = (0,0,0,0,false):=by
   unfold tk
   repeat (first | rw [if_pos (by omega)] | rw [if_neg (by omega)])
  have hc : cnt op = false:=by unfold cnt;first | rfl | (rw [decide_eq_true_eq];omega) | (rw [decide_eq_false_iff_not];omega)
  rw [e]
  have HK:=Lib.hid (fun W=>counted_any op W)
  rw [hc] at HK
  clear e hc
  go_enter Tryd.func25,Tryd.ntmps25
  go_wp2_with (go_at_call 44;with_reducible refine (HK.out _).mono ?_;rintro _ _ ⟨rfl,rfl⟩)
  all_goals refine bodyPost_ret (by simp [results,Tryd.results25,go_sem, *];try rfl) rfl ?_
  all_goals first | exact ⟨rfl,by (repeat' first|(with_reducible first|exact blR _ _|assumption|refine blD ?_|refine blN ?_ _)|((with_reducible first|refine blA ?_ ?_ _|refine blS ?_ ?_ _|refine blT (by assumption) ?_ ?_);focus (go_size;done)))⟩ | (refine ⟨?_,by (repeat' first|(with_reducible first|exact blR _ _|assumption|refine blD ?_|refine blN ?_ _)|((with_reducible first|refine blA ?_ ?_ _|refine blS ?_ ?_ _|refine blT (by assumption) ?_ ?_);focus (go_size;done)))⟩;simp_all)
 have da : 38 ≤ op:=by omega
 have db : op ≤ 100:=by omega
 have q25 : (op == 25) = false:=by rw [beq_eq_false_iff_ne];omega
 have r25 : (op != 25) = true:=by rw [bne_iff_ne];omega
 have q36 : (op == 36) = false:=by rw [beq_eq_false_iff_ne];omega
 have r36 : (op != 36) = true:=by rw [bne_iff_ne];omega
 have q101 : (op == 101) = false:=by rw [beq_eq_false_iff_ne];omega
 have r101 : (op != 101) = true:=by rw [bne_iff_ne];omega
 have q102 : (op == 102) = false:=by rw [beq_eq_false_iff_ne];omega
 have r102 : (op != 102) = true:=by rw [bne_iff_ne];omega
 have q26 : (op == 26) = false:=by rw [beq_eq_false_iff_ne];omega
 have q27 : (op == 27) = false:=by rw [beq_eq_false_iff_ne];omega
 have q8 : (op == 8) = false:=by rw [beq_eq_false_iff_ne];omega
 have q24 : (op == 24) = false:=by rw [beq_eq_false_iff_ne];omega
 have q28 : (op == 28) = false:=by rw [beq_eq_false_iff_ne];omega
 have q37 : (op == 37) = false:=by rw [beq_eq_false_iff_ne];omega
 have q29 : (op == 29) = false:=by rw [beq_eq_false_iff_ne];omega
 have q22 : (op == 22) = false:=by rw [beq_eq_false_iff_ne];omega
 have q35 : (op == 35) = false:=by rw [beq_eq_false_iff_ne];omega
 have q103 : (op == 103) = false:=by rw [beq_eq_false_iff_ne];omega
 have q104 : (op == 104) = false:=by rw [beq_eq_false_iff_ne];omega
 have e : tk op 0 = (0,0,0,0,false):=by
  unfold tk
  repeat (first | rw [if_pos (by omega)] | rw [if_neg (by omega)])
 have hc : cnt op = false:=by unfold cnt;first | rfl | (rw [decide_eq_true_eq];omega) | (rw [decide_eq_false_iff_not];omega)
 rw [e]
 have HK:=Lib.hid (fun W=>counted_any op W)
 rw [hc] at HK
 clear e hc
 go_enter Tryd.func25,Tryd.ntmps25
 go_wp2_with (go_at_call 44;with_reducible refine (HK.out _).mono ?_;rintro _ _ ⟨rfl,rfl⟩)
 all_goals refine bodyPost_ret (by simp [results,Tryd.results25,go_sem, *];try rfl) rfl ?_
 all_goals first | exact ⟨rfl,by (repeat' first|(with_reducible first|exact blR _ _|assumption|refine blD ?_|refine blN ?_ _)|((with_reducible first|refine blA ?_ ?_ _|refine blS ?_ ?_ _|refine blT (by assumption) ?_ ?_);focus (go_size;done)))⟩ | (refine ⟨?_,by (repeat' first|(with_reducible first|exact blR _ _|assumption|refine blD ?_|refine blN ?_ _)|((with_reducible first|refine blA ?_ ?_ _|refine blS ?_ ?_ _|refine blT (by assumption) ?_ ?_);focus (go_size;done)))⟩;simp_all)
end Go.Proofs.YtnhmplfonkjfoaaDoor



namespace Go.Proofs.YtnhmplfonkjfoaaDoor
open Go.RowKit

def pairs (is : List InsD) : List (Int × Int):=is.map fun i=>(i.op,i.a)
theorem ov_low {B k : Nat} (h : k < B) : ov B k = 0:=if_pos h
theorem ov_up {B k : Nat} (h : B < k) : ov B k = 2:=by unfold ov;rw [if_neg (by omega),if_neg (by omega)]
theorem Stt.made (w : World) (n : Nat) : Stt (w.alloc (.cells (madeCells #[.bool false,.int .i64 0,.int .i64 0] (n * 3)) 60)) (ov w.heap.size) 1 w.heap.size (List.replicate n none):=by
 refine ⟨(madeCells #[.bool false,.int .i64 0,.int .i64 0] (n * 3)).toList,⟨?_,ov_self _⟩,by rw [Array.length_toList,size_madeCells,List.length_replicate],fun r hr=>?_⟩
 ·have:=Bk.new w 60 (madeCells #[.bool false,.int .i64 0,.int .i64 0] (n * 3)).toList
  rwa [Array.toArray_toList] at this
 ·rw [List.length_replicate] at hr
  have e : (List.replicate n (none : Option Way)).getD r none = none:=by rw [List.getD_eq_getElem?_getD,List.getElem?_replicate];split <;> rfl
  rw [e]
  exact ⟨made_at _ _ _ n r 0 hr (by decide),made_at _ _ _ n r 1 hr (by decide),made_at _ _ _ n r 2 hr (by decide)⟩
theorem pairs_length (is : List InsD) : (pairs is).length = is.length:=by simp [pairs]
theorem pairs_drop {is : List InsD} {t : Nat} (h : t < is.length) : (pairs is).drop t = ((ig is t).op,(ig is t).a) :: (pairs is).drop (t + 1):=by
 have e : (pairs is)[t]'(by rw [pairs_length];exact h) = ((ig is t).op,(ig is t).a):=by
  unfold pairs ig
  rw [List.getElem_map,List.getD_eq_getElem?_getD,List.getElem?_eq_getElem h];rfl
 rw [List.drop_eq_getElem_cons (by rw [pairs_length];exact h),e]
theorem pairs_end (is : List InsD) : (pairs is).drop is.length = []:=by rw [← pairs_length];exact List.drop_length
theorem info_state : (Tryd.prog.info? 60).map (fun i=>(i.zero,i.size,i.bytes)) = some (some (.agg #[.bool false,.int .i64 0,.int .i64 0]),3,24):=by kernel_rfl
theorem vGo_end (n i : Nat) (f m : Int) (S : St) : vGo n f [] i S m = if (oB (S.getD n none) == true && (oH (S.getD n none) == 1 && oE (S.getD n none) == f)) = true then (max m 1,0) else (0,2):=by
 unfold vGo
 cases S.getD n none with
 | none=>simp [oB]
 | some x =>
  obtain ⟨x1,x2⟩:=x
  by_cases h1 : x1 = 1 <;> by_cases h2 : x2 = f <;> simp [oB,oH,oE,h1,h2]
def fB (b : Bool) : Int:=if b = true then 1 else 0
def VerPost (is : List InsD) (b : Bool) (w : World) (e : Ending) (w' : World) : Prop:=e = .returned (.tuple #[.int .i64 (verS (pairs is) (fB b)).1,.int .i64 (verS (pairs is) (fB b)).2]) ∧ Below w.heap.size w w'
set_option maxHeartbeats 1000000 in
theorem verify_long (is : List InsD) (v : Value) (b : Bool) (w : World) (h : Cod w v is) (hl : 600 < is.length) : Calls Tryd.prog 14 #[v,.bool b] w (VerPost is b w):=by
 have HR : Hid (verS (pairs is) (fB b) = (0,6)):=Lib.hid (by unfold verS;rw [if_pos (by rw [pairs_length];exact hl)])
 obtain ⟨A,C,rfl,h2,h3⟩:=h
 have hl2 : (600 : Int) < (is.length : Int):=by omega
 clear h3 h2
 go_enter Tryd.func14,Tryd.ntmps14
 go_wp2_with fail
 go_ret2
 exact ⟨by rw [HR.out];rfl,Below.refl _ _⟩
end Go.Proofs.YtnhmplfonkjfoaaDoor



namespace Go.Proofs.YtnhmplfonkjfoaaDoor
open Go.RowKit

def wg (l : List Way) (r : Nat) : Way:=l.getD r (0,0)
theorem wcs_get : ∀ (l : List Way) (r : Nat),r < l.length → (wcs l)[r * 2]? = some (.int .i64 (wg l r).1) ∧ (wcs l)[r * 2 + 1]? = some (.int .i64 (wg l r).2)
 | [],r,h=>absurd h (by simp)
 | x :: l,0,_=>⟨rfl,rfl⟩
 | x :: l,r + 1,h=>by
  obtain ⟨a,b⟩:=wcs_get l r (by simpa using h)
  have e1 : (r + 1) * 2 = r * 2 + 2:=by omega
  rw [e1]
  exact ⟨a,b⟩
def Wyl (w : World) (v : Value) (l : List Way) : Prop:=Lsn 2 (fun r=>wayCs (wg l r)) w v l.length
theorem Ro.wyl {w : World} {o : Nat → Nat} {lab : Nat} {t : TypeId} {v : Value} {l : List Way} (h : Ro w o lab t 2 v l.length (wcs l)) : Wyl w v l:=by
 obtain ⟨A,C,h1,h2,_,h4⟩:=h.sl
 refine ⟨A,C,h1,h2,fun r hr=>?_⟩
 obtain ⟨b,o',h5,h6⟩:=h4 (r * 2) (by omega)
 refine ⟨b,o',h5,fun j hj=>?_⟩
 obtain ⟨b',o'',h5',h7⟩:=h4 (r * 2 + j) (by have : j < 2:=hj;omega)
 rw [h5] at h5'
 injection h5' with e
 injection e with e1 e2
 subst e1 e2
 rw [Nat.add_assoc,h7]
 obtain ⟨a,b2⟩:=wcs_get l r hr
 have hj' : j = 0 ∨ j = 1:=by have : j < 2:=hj;omega
 rcases hj' with rfl | rfl
 ·exact a
 ·exact b2
theorem alike_iff {l : List Way} : alikeB l = true ↔ 0 < l.length ∧ ∀ r,r < l.length → wg l r = wg l 0:=by
 cases l with
 | nil=>simp [alikeB]
 | cons x r =>
  simp only [alikeB,List.all_eq_true,decide_eq_true_eq]
  constructor
  ·intro h
   refine ⟨by simp,fun k hk=>?_⟩
   cases k with
   | zero=>rfl
   | succ k =>
    refine h _ ?_
    have e : wg (x :: r) (k + 1) = r[k]'(by simpa using hk):=by
     unfold wg;rw [List.getD_eq_getElem?_getD,List.getElem?_cons_succ,List.getElem?_eq_getElem (by simpa using hk)];rfl
    rw [e]
    exact List.getElem_mem _
  ·rintro ⟨_,h⟩ y hy
   obtain ⟨k,hk,rfl⟩:=List.mem_iff_getElem.1 hy
   have e : wg (x :: r) (k + 1) = r[k]:=by
    unfold wg;rw [List.getD_eq_getElem?_getD,List.getElem?_cons_succ,List.getElem?_eq_getElem hk];rfl
   have:=h (k + 1) (by simpa using hk)
   rw [e] at this
   exact this
theorem head_wg {l : List Way} (h : 0 < l.length) : l.head? = some (wg l 0):=by
 cases l with
 | nil=>exact absurd h (by simp)
 | cons x r=>rfl
set_option maxRecDepth 100000 in
theorem neq_way (c d e f : Int) (W : World) : (binOp .neq 52 (.agg #[.int .i64 c,.int .i64 e]) (.agg #[.int .i64 d,.int .i64 f])).run Tryd.prog W = .ok (.bool (!(c == d && e == f))) W:=by
 go_simp
 by_cases h1 : c = d <;> by_cases h2 : e = f <;> simp [h1,h2]
set_option maxHeartbeats 1000000 in
theorem alike_q (l : List Way) (v : Value) (w : World) (h : Wyl w v l) : Calls Tryd.prog 24 #[v] w fun e w'=>e = .returned (.bool (alikeB l)) ∧ ∃ nn,w' = w.drewN nn:=by
 have HW:=Lib.hid h
 obtain ⟨A,C,rfl,h2,_⟩:=h
 unfold maxLen at h2
 obtain ⟨z,hz⟩ : ∃ z,z = alikeB l:=⟨_,rfl⟩
 have HZ : Hid (z = true ↔ 0 < l.length ∧ ∀ r,r < l.length → wg l r = wg l 0):=Lib.hid (by rw [hz];exact alike_iff)
 rw [← hz]
 clear hz
 go_enter Tryd.func24,Tryd.ntmps24
 go_wp2_with fail
 go_loopg [3] l.length (fun k i wr=>∃ t : Nat,k + t = l.length ∧ i = .int .i64 t ∧ Hid (∀ r,r < t → wg l r = wg l 0) ∧ Hid (∃ m,wr = w.drewN m))
 case atStart=>exact ⟨0,by omega,rfl,Lib.hid (fun r hr=>absurd hr (Nat.not_lt_zero _)),Lib.hid ⟨0,rfl⟩⟩
 case round =>
  obtain ⟨t,hk,rfl,HA,HD⟩:=hrel
  have HK:=Lib.hid hk
  have htn : t ≤ l.length:=by omega
  clear hk
  obtain ⟨md,hmd⟩:=HD.out
  subst hmd
  by_cases hlt : t < l.length
  ·obtain ⟨b1,o1,rfl,a1⟩:=HW.out.at hlt
   obtain ⟨b2,o2,e2,a2⟩:=HW.out.at (show 0 < l.length by omega)
   injection e2 with e2
   injection e2 with e3 e4
   subst e3 e4
   obtain ⟨x1,x2⟩:=a1.way
   obtain ⟨y1,y2⟩:=a2.way
   rw [Nat.zero_mul,Nat.add_zero] at y1 y2
   have r1 : ∀ W,(binOp .neq 52 (.agg #[.int .i64 (wg l t).1,.int .i64 (wg l t).2]) (.agg #[.int .i64 (wg l 0).1,.int .i64 (wg l 0).2])).run Tryd.prog W = .ok (.bool (!((wg l t).1 == (wg l 0).1 && (wg l t).2 == (wg l 0).2))) W:=fun W=>neq_way _ _ _ _ W
   have HE : Hid (((wg l t).1 == (wg l 0).1 && (wg l t).2 == (wg l 0).2) = true ↔ wg l t = wg l 0):=Lib.hid (by
    rw [Prod.ext_iff];simp)
   generalize ((wg l t).1 == (wg l 0).1 && (wg l t).2 == (wg l 0).2) = q at *
   generalize (wg l t).1 = u1 at *
   generalize (wg l t).2 = u2 at *
   generalize (wg l 0).1 = u3 at *
   generalize (wg l 0).2 = u4 at *
   clear a1 a2
   cases q with
   | true =>
    simp only [Bool.not_true] at r1
    go_wp2_with fail
    go_quiet (fail)
    go_wp2_with fail
    go_roundg (gk - 1)
    case measure=>have:=HK.out;omega
    case rel =>
     refine ⟨t + 1,by have:=HK.out;omega,by go_num,Lib.hid (fun r hr=>?_),Lib.hid ⟨_,rfl⟩⟩
     by_cases e : r = t
     ·subst e;exact HE.out.1 (by simp)
     ·exact HA.out r (by omega)
   | false =>
    simp only [Bool.not_false] at r1
    have hz : z = false:=by
     cases z with
     | false=>rfl
     | true=>exact absurd (HE.out.2 ((HZ.out.1 rfl).2 t hlt)) (by simp)
    subst hz
    go_wp2_with fail
    go_quiet (fail)
    go_wp2_with fail
    go_ret
    exact ⟨rfl,by first | exact ⟨_,rfl⟩ | exact ⟨_,(World.drewN_drewN _ _ _)⟩⟩
  ·obtain rfl : t = l.length:=by omega
   have hz : z = decide (0 < l.length):=by
    rw [Bool.eq_iff_iff,HZ.out,decide_eq_true_eq]
    exact ⟨fun h=>h.1,fun h=>⟨h,HA.out⟩⟩
   subst hz
   clear hlt
   go_wp2_with fail
   go_ret
   exact ⟨ret_bool (by simp),by first | exact ⟨_,rfl⟩ | exact ⟨_,(World.drewN_drewN _ _ _)⟩⟩
theorem alike_any (l : List Way) (v : Value) (w : World) (h : Wyl w v l) : Calls Tryd.prog 24 #[v] w fun e w'=>e = .returned (.bool (alikeB l)) ∧ Below w.heap.size w w' :=
 (alike_q l v w h).mono fun _ _ ⟨he,n,hw⟩=>⟨he,by rw [hw];exact below_drewN (Below.refl _ _) n⟩
end Go.Proofs.YtnhmplfonkjfoaaDoor



namespace Go.Proofs.YtnhmplfonkjfoaaDoor
open Go.RowKit

section
variable {w0 : World} {g gF : Nat} {f : Int} {o o' : Nat → Nat} {wr w' : World} {vs : List Value} {W : Wy}
theorem Wym.wyl (h : Wym w0 g gF f o wr vs W) {k : Nat} (hk : k < W.length) : Wyl wr (vs.getD k undef) (W.getD k []):=(h.rows k hk).wyl
end
section
variable {n i : Nat} {f op a m : Int} {r : List (Int × Int)} {W : Wy} {x : Way}
theorem dGo_off (hc : alikeB (W.getD i []) = false) : dGo n f ((op,a) :: r) i W m = (0,2):=by
 unfold dGo
 split
 ·rfl
 ·rw [if_neg (fun hh=>by rw [hc] at hh;exact Bool.noConfusion hh.2.1)]
theorem dGo_no (hc : (tk op a).2.2.2.2 = false) : dGo n f ((op,a) :: r) i W m = (0,2):=by
 unfold dGo
 split
 ·rfl
 ·rw [if_neg (fun hh=>by rw [hc] at hh;exact Bool.noConfusion hh.1)]
theorem dGo_bad2 (hh : (W.getD i []).head? = some x) (hc : ¬ ((tk op a).1 ≤ x.1 ∧ (tk op a).2.2.2.1 ≤ x.2)) : dGo n f ((op,a) :: r) i W m = (0,2):=by
 unfold dGo
 rw [hh]
 dsimp only
 rw [if_neg (fun h=>hc h.2.2)]
theorem dGo_out (hh : (W.getD i []).head? = some x) (hj : isJ op = true) (hb : ¬ ((i : Int) < a ∧ a ≤ n)) : dGo n f ((op,a) :: r) i W m = (0,2):=by
 unfold dGo
 rw [hh]
 dsimp only
 split
 ·rw [if_pos ⟨hj,hb⟩]
 ·rfl
def wStep (op a : Int) (i : Nat) (W : Wy) (x : Way) : Wy :=
 let W1:=if isJ op = true then put W a.toNat (after op a x) else W
 if op = 101 then W1 else put W1 (i + 1) (after op a x)
theorem dGo_go (hh : (W.getD i []).head? = some x) (ha : alikeB (W.getD i []) = true) (hc : (tk op a).2.2.2.2 = true ∧ (tk op a).1 ≤ x.1 ∧ (tk op a).2.2.2.1 ≤ x.2) (hb : isJ op = true → (i : Int) < a ∧ a ≤ n) : dGo n f ((op,a) :: r) i W m = dGo n f r (i + 1) (wStep op a i W x) (max m x.1):=by
 rw [dGo]
 rw [hh]
 dsimp only
 rw [if_pos ⟨hc.1,ha,hc.2⟩,if_neg (fun h=>h.2 (hb h.1))]
 rfl
end
theorem Wym.val {w0 : World} {g gF : Nat} {f : Int} {o : Nat → Nat} {wr : World} {vs : List Value} {W : Wy} (h : Wym w0 g gF f o wr vs W) {k : Nat} (hk : k < W.length) : vs[k]? = some (vs.getD k undef):=by
 rw [List.getElem?_eq_getElem (by rw [h.len];exact hk),List.getD_eq_getElem?_getD,List.getElem?_eq_getElem (by rw [h.len];exact hk)];rfl
theorem news_new (w : World) (x y : Value) (t : TypeId) : ∀ (j : Nat) (u : Value),[x,y][j]? = some u → (w.alloc (.cells #[x,y] t)).cell? ((⟨w.heap.size,0,none⟩ : Addr).add j) = some u:=fun j u hj=>by
 have hb:=Bk.new w t [x,y]
 match j with
 | 0=>exact hb.cell 0 hj
 | 1=>exact hb.cell 1 hj
 | j + 2=>simp at hj
theorem news_newd (w : World) (x y : Value) (t : TypeId) : ∀ (j : Nat) (u : Value),[x,y][j]? = some u → ((w.alloc (.cells #[x,y] t)).drew).cell? ((⟨w.heap.size,0,none⟩ : Addr).add j) = some u:=news_new w x y t
theorem two_cells (a b : Int) : ∀ u ∈ [Value.int .i64 a,Value.int .i64 b],u.oneCell' = true:=fun u hu=>by
 simp only [List.mem_cons,List.mem_nil_iff,or_false] at hu
 rcases hu with rfl | rfl <;> rfl
theorem put_mem {W : Wy} {k j : Nat} {x y : Way} (hk : k < W.length) (h : y ∈ (put W k x).getD j []) : y = x ∨ y ∈ W.getD j []:=by
 rw [getD_put W k j x hk] at h
 split at h
 ·rename_i e;subst e
  rcases List.mem_append.1 h with h | h
  ·exact .inr h
  ·exact .inl (List.mem_singleton.1 h)
 ·exact .inr h
theorem put_len {W : Wy} {k j b : Nat} {x : Way} (hk : k < W.length) (h : (W.getD j []).length ≤ b) : ((put W k x).getD j []).length ≤ b + 1:=by
 rw [getD_put W k j x hk]
 split
 ·rename_i e;subst e
  rw [List.length_append,List.length_singleton];omega
 ·omega
theorem info_way : (Tryd.prog.info? 52).map (fun i=>(i.zero,i.size,i.bytes)) = some (some (.agg #[.int .i64 0,.int .i64 0]),2,16):=by kernel_rfl
end Go.Proofs.YtnhmplfonkjfoaaDoor



namespace Go.Proofs.YtnhmplfonkjfoaaDoor
open Go.RowKit

set_option maxRecDepth 100000
theorem wpList_makeL {w : World} {ops : Array Oper} {rest : List Oper} {o : Oper} {a : Act} {Q : Exit → Act → World → Prop} (hg : o.guard = none) (l c : Operand) (t e : TypeId) (hop : o.op = Op.makeSlice t l c)
  (z : Value) (hz : z.cells = #[z]) (bytes : Nat) (ht : Tryd.prog.underlying t = some (.slice e)) (hi : (Tryd.prog.info? e).map (fun i=>(i.zero,i.size,i.bytes)) = some (some z,1,bytes)) (own : Nat → Nat) (lab n : Nat)
  (hl : a.eval l = .int .i64 n) (hc : a.eval c = .int .i64 n) (b2 : bytes * n ≤ 281474976710656) (b3 : n ≤ maxLen)
  (h : ∀ w',Lb w' (relabel own w.heap.size lab) lab w.heap.size e (List.replicate n z) → Turn (fun _=>False) w own w' (relabel own w.heap.size lab) → wpList Tryd.prog ops Q rest (a.put o.dst (.slice (some ⟨w.heap.size,0,none⟩) n n)) w') :
  wpList Tryd.prog ops Q (o :: rest) a w:=by
 obtain ⟨i0,hi0,hz0,hz1,hz2⟩:=info_parts hi
 refine wpList_make_full w hg l c t hop w.heap.size e i0 z 1 ht hi0 hz0 hz1 .i64 .i64 n n n hl hc rfl rfl (by rw [hz2];exact b2) b3 (Nat.le_refl _) fun w' h1 h2=>?_
 refine h w' ⟨?_,relabel_new (Nat.le_refl _)⟩ ⟨h2.os,h2.tape,h2.output,h2.size,fun k hk=>relabel_old hk,fun k hk _=>h2.block k hk (by simp)⟩
 rcases h1.2 with ⟨hn,_⟩ | ⟨g,cap,cur,hv,_,hg',h3,h4,h5,h6⟩
 ·cases hn
 ·injection hv with e1 e2 e3
  injection e1 with e1
  injection e1 with e1
  subst e1 e3
  rw [hz,toList_madeCells_one,Nat.mul_one] at h6
  rw [Nat.mul_one] at h5
  rw [List.take_of_length_le (by rw [Array.length_toList,h5];exact Nat.le_refl _)] at h6
  unfold Bk
  rw [hg',← h6]
def DocPost (is : List InsD) (b : Bool) (w : World) (e : Ending) (w' : World) : Prop:=e = .returned (.tuple #[.int .i64 (docS (pairs is) (fB b)).1,.int .i64 (docS (pairs is) (fB b)).2]) ∧ Below w.heap.size w w'
set_option maxHeartbeats 1000000 in
theorem doc_long (is : List InsD) (v : Value) (b : Bool) (w : World) (h : Cod w v is) (hl : 600 < is.length) : Calls Tryd.prog 13 #[v,.bool b] w (DocPost is b w):=by
 have HR : Hid (docS (pairs is) (fB b) = (0,6)):=Lib.hid (by unfold docS;rw [if_pos (by rw [pairs_length];exact hl)])
 obtain ⟨A,C,rfl,h2,h3⟩:=h
 have hl2 : (600 : Int) < (is.length : Int):=by omega
 clear h3 h2
 go_enter Tryd.func13,Tryd.ntmps13
 go_wp2_with fail
 go_ret2
 exact ⟨by rw [HR.out];rfl,Below.refl _ _⟩
set_option maxHeartbeats 20000000 in
theorem doc_in_true (is : List InsD) (v : Value) (w : World) (h : Cod w v is) (hl : is.length ≤ 600) : Calls Tryd.prog 13 #[v,.bool true] w (DocPost is true w):=by
 obtain ⟨R,hR⟩ : ∃ R,R = docS (pairs is) (fB true):=⟨_,rfl⟩
 have HV : Hid (dGo is.length (fB true) (pairs is) 0 ([(0,fB true)] :: List.replicate is.length []) 0 = R):=Lib.hid (by
  rw [hR];unfold docS;rw [if_neg (by rw [pairs_length];omega),pairs_length])
 unfold DocPost
 rw [← hR]
 clear hR
 have HC:=Lib.hid h
 obtain ⟨A,C,rfl,h2,h3⟩:=h
 have hl2 : ((is.length : Int)) ≤ 600:=by omega
 clear h3 h2
 have tokd : fB true = 1:=rfl
 clear tokd
 have esz : (w.alloc (.cells #[.int .i64 0,.int .i64 1] 52)).heap.size = w.heap.size + 1:=World.size_alloc _ _
 go_enter Tryd.func13,Tryd.ntmps13
 go_wp2_with (at_make;refine wpList_makeL rfl _ _ 53 54 rfl (.slice none 0 0) rfl 24 Tryd.underlying53 (by kernel_rfl) (relabel (fun _=>0) w.heap.size 2) 1 (is.length + 1) rfl rfl (by omega) (by unfold maxLen;omega) ?_;intro w1 lw t1;have lf:=(Lb.new (w:=w) (fun _=>0) 2 52 [.int .i64 0,.int .i64 1] (Nat.le_refl _)).turn t1 (fun h=>h);rw [esz] at lw lf t1;have cf0:=lf.1.cell 0 rfl;have cf1:=lf.1.cell 1 rfl;have cg0:=lw.1.cell 0 rfl;have fg0:=lw.1.frozen 0;have ltg:=lw.1.lt)
 generalize relabel (relabel (fun _=>0) w.heap.size 2) (w.heap.size + 1) 1 = oq at lw lf t1
 have hM0 : Wym w (w.heap.size + 1) w.heap.size 1 oq w1 (List.replicate (is.length + 1) (.slice none 0 0)) (List.replicate (is.length + 1) []):=by
  refine ⟨lw,lf,fun n hn=>?_,by simp, ?_⟩
  ·rw [List.length_replicate] at hn
   rw [List.getD_eq_getElem?_getD,List.getElem?_replicate,if_pos hn,List.getD_eq_getElem?_getD,List.getElem?_replicate,if_pos hn]
   exact Ro.nil _ _ _ _ _
  ·have t0 : Turn (fun l=>l ≠ 0) w (fun _=>0) (w.alloc (.cells #[.int .i64 0,.int .i64 1] 52)) (relabel (fun _=>0) w.heap.size 2):=((Turn.refl _ _ _).alloc _).relabel (Nat.le_refl _) 2
   exact t0.trans (t1.mono fun _ h=>h.elim)
 have hM1:=hM0.push (k:=0) (x:=(0,1)) (by simp) (((Turn.refl (· = 3 + 0) w1 _).alloc (.cells #[.int .i64 0,.int .i64 1] 52)).relabel (Nat.le_refl _) 3) (Ro.of_block (n:=1) (cap:=1) (k:=2) (Lb.new (w:=w1) _ 3 52 [.int .i64 0,.int .i64 1] (Nat.le_refl _)) (Nat.le_refl _) (by decide) rfl rfl)
 rw [World.setCell_alloc_past _ _ _ _ ltg] at hM1
 have HM1:=Lib.hid hM1
 have HV0:=HV
 clear hM0 hM1 lw lf t1 cf0 cf1 cg0 fg0 esz
 obtain ⟨g,hg⟩ : ∃ g,g = w.heap.size + 1:=⟨_,rfl⟩
 have hgF : w.heap.size < g:=by omega
 rw [← hg] at HM1 ltg
 rw [← hg]
 clear hg
 go_loopg [8,9] is.length (fun k s8 s9 wr=>∃ (t : Nat) (m : Int) (o : Nat → Nat) (vs : List Value) (W : Wy),k + t = is.length ∧ s9 = .int .i64 t ∧ s8 = .int .i64 m ∧ Hid (Wym w g w.heap.size 1 o wr vs W) ∧ Hid (W.length = is.length + 1) ∧ Hid (∀ k x,x ∈ W.getD k [] → InB t x) ∧ Hid (∀ k,(W.getD k []).length ≤ 2 * t + 1) ∧ Hid (0 ≤ m ∧ m ≤ 600) ∧ Hid (dGo is.length 1 ((pairs is).drop t) t W m = R))
 case atStart =>
  have ep : put (List.replicate (is.length + 1) []) 0 (0,1) = [(0,1)] :: List.replicate is.length []:=rfl
  rw [ep] at HM1
  have e2 : ∀ k,(([(0,1)] : List Way) :: List.replicate is.length []).getD k [] = if k = 0 then [(0,1)] else []:=fun k=>by
   cases k with
   | zero=>rfl
   | succ k=>rw [List.getD_eq_getElem?_getD,List.getElem?_cons_succ,List.getElem?_replicate];split <;> rfl
  refine ⟨0,0,_,_,[(0,1)] :: List.replicate is.length [],by omega,rfl,rfl,HM1,Lib.hid (by simp),Lib.hid (fun k x hx=>?_),Lib.hid (fun k=>?_),Lib.hid ⟨by omega,by omega⟩,HV0⟩
  ·rw [e2] at hx
   split at hx
   ·obtain rfl:=List.mem_singleton.1 hx
    exact ⟨by simp,by simp,by simp,by simp⟩
   ·cases hx
  ·rw [e2];split <;> simp
 case round =>
  obtain ⟨t,m,o,vs,W,hk,rfl,rfl,HMM,HLN,HBD,HLW,HMB,HVG⟩:=hrel
  have HK:=Lib.hid hk
  have htn : t ≤ is.length:=by omega
  clear hk HM1 HV0
  by_cases hlt : t < is.length
  ·obtain ⟨b1,p1,rfl,hat⟩:=(HC.out.below HMM.out.below).at hlt
   obtain ⟨I,hI⟩ : ∃ I,I = ig is t:=⟨_,rfl⟩
   have HD:=pairs_drop hlt
   rw [← hI] at hat HD
   obtain ⟨op,a,tx,ng,hi,lo,sc,dy⟩:=I
   have HVG2:=HVG.out
   rw [HD] at HVG2
   have HVG3:=Lib.hid HVG2
   clear hI HD HVG2 HVG
   have HAT:=Lib.hid hat
   obtain ⟨a0,a1,a2,a3,a4,a5,a6,a7⟩:=hat.ins
   dsimp only at a0 a1 a2 a3 a4 a5 a6 a7
   clear hat
   have HE:=Lib.hid (takes_any op a tx ng hi lo sc dy)
   go_wp2_with fail
   refine (HE.out _).mono ?_
   rintro _ w2 ⟨rfl,hb2⟩
   have hs2:=hb2.size
   have HMK:=Lib.hid (HMM.out.kept hb2)
   have HAT2:=HAT.out.below hb2
   obtain ⟨e0,e1,-⟩:=HAT2.ins
   dsimp only at e0 e1
   have HA2:=Lib.hid HAT2
   clear HAT2 HAT a0 a1 a2 a3 a4 a5 a6 a7 HE HMM hb2
   generalize relabel o wr.heap.size 2 = o2 at HMK
   clear hs2
   obtain ⟨T,hT⟩ : ∃ T,T = tk op a:=⟨_,rfl⟩
   have HTB:=tk_TB op a
   rw [← hT] at HTB
   rw [← hT]
   obtain ⟨off,on,tu,ak,ok⟩:=T
   have HT:=Lib.hid hT
   have HTB2:=Lib.hid HTB
   dsimp only
   clear hT HTB
   have htW : t < W.length:=by have:=HLN.out;omega
   have ct:=HMK.out.cell htW
   have HAL:=Lib.hid (alike_any _ _ _ (HMK.out.wyl htW))
   have HYL:=Lib.hid (HMK.out.wyl htW)
   have hbl:=HMK.out.below
   have hle:=hbl.size
   obtain ⟨u,hu⟩ : ∃ u,u = vs.getD t undef:=⟨_,rfl⟩
   rw [← hu] at ct HAL HYL
   have HU:=Lib.hid hu
   clear hu
   cases ok with
   | false =>
    have hr : (0,2) = R:=by
     rw [← HVG3.out,dGo_no (by rw [← HT.out])]
    subst hr
    go_wp2_with fail
    go_ret2
    exact ⟨rfl,by (repeat' first|(with_reducible first|exact blR _ _|assumption|refine blD ?_|refine blN ?_ _)|((with_reducible first|refine blA ?_ ?_ _|refine blS ?_ ?_ _|refine blT (by assumption) ?_ ?_);focus (go_size;done)))⟩
   | true =>
    cases hz : alikeB (W.getD t []) with
    | false =>
     have hr : (0,2) = R:=by rw [← HVG3.out,dGo_off hz]
     subst hr
     rw [hz] at HAL
     clear hz
     go_wp2_with fail
     refine HAL.out.mono ?_
     rintro _ w3 ⟨rfl,hb3⟩
     have hs3:=hb3.size
     go_wp2_with fail
     go_ret2
     exact ⟨rfl,by (repeat' first|(with_reducible first|exact blR _ _|assumption|refine blD ?_|refine blN ?_ _)|((with_reducible first|refine blA ?_ ?_ _|refine blS ?_ ?_ _|refine blT (by assumption) ?_ ?_);focus (go_size;done)))⟩
    | true =>
     rw [hz] at HAL
     have HZ:=Lib.hid hz
     obtain ⟨hpos,_⟩:=alike_iff.1 hz
     have HH:=Lib.hid (head_wg hpos)
     obtain ⟨A2,C2,hu2,hl2m⟩ : ∃ A2 C2,u = .slice A2 (W.getD t []).length C2 ∧ (W.getD t []).length ≤ maxLen:=by
      obtain ⟨A2,C2,q1,q2,_⟩:=HYL.out
      exact ⟨A2,C2,q1,q2⟩
     subst hu2
     obtain ⟨b2,p2,rfl,ay⟩:=HYL.out.at hpos
     rw [Nat.zero_mul,Nat.add_zero] at ay
     have HAY:=Lib.hid ay
     have HXB:=HBD.out t (wg (W.getD t []) 0) (by
      have:=HH.out
      exact List.mem_of_mem_head? this)
     obtain ⟨x,hx⟩ : ∃ x,x = wg (W.getD t []) 0:=⟨_,rfl⟩
     rw [← hx] at HH HAY HXB
     clear hx ay hz
     obtain ⟨x1,x2⟩:=x
     obtain ⟨lt,hlt2⟩ : ∃ lt,lt = (W.getD t []).length:=⟨_,rfl⟩
     rw [← hlt2] at hpos HAL ct hl2m HU
     clear hlt2 HYL
     unfold maxLen at hl2m
     go_wp2_with fail
     refine HAL.out.mono ?_
     rintro _ w3 ⟨rfl,hb3⟩
     have hs3:=hb3.size
     have HM3:=Lib.hid (HMK.out.kept hb3)
     have hAY:=HAY.out.below hb3
     obtain ⟨y1,y2⟩:=hAY.way
     obtain ⟨e0',e1',-⟩:=(HA2.out.below hb3).ins
     dsimp only at e0' e1' y1 y2
     have HAX:=Lib.hid (HA2.out.below hb3)
     have ct3:=HM3.out.cell htW
     rw [← HU.out] at ct3
     have hbl3:=HM3.out.below
     clear e0 e1 hb3 HAL ct HMK hbl hAY HAY HA2 hle hs3
     have hle:=hbl3.size
     generalize relabel o2 w2.heap.size 2 = o3 at HM3
     by_cases hc : off ≤ x1 ∧ ak ≤ x2
     ·obtain ⟨h1,h2⟩:=hc
      obtain ⟨f1,f2,f3,f4,f5,f6,f7,_⟩:=HTB2.out rfl
      obtain ⟨c1,c2,c3,c4⟩:=id HXB
      dsimp only at f1 f2 f3 f4 f5 f6 f7 c1 c2 c3 c4
      have l1 : b1 < w3.heap.size:=cell_lt2 e0'
      have l2 : b2 < w3.heap.size:=cell_lt2 y1
      have l3 : g < w3.heap.size:=cell_lt2 ct3
      have HBW : Hid (b1 < w.heap.size):=Lib.hid (by
       obtain ⟨b9,p9,q9,a9⟩:=HC.out.at hlt
       injection q9 with q9
       injection q9 with q8 q9
       subst q8
       exact cell_lt2 (a9.ins).1)
      have haf : Hid (after op a (x1,x2) = (x1 - off + on,x2 + tu)):=Lib.hid (by unfold after;rw [← HT.out])
      have hcc : Hid ((tk op a).2.2.2.2 = true ∧ (tk op a).1 ≤ (x1,x2).1 ∧ (tk op a).2.2.2.1 ≤ (x1,x2).2):=Lib.hid (by rw [← HT.out];exact ⟨rfl,h1,h2⟩)
      have HIN:=Lib.hid (InB.next HXB hcc.out.1 hcc.out.2.1)
      rw [haf.out] at HIN
      go_upto_region 15 with fail
      go_cut [8] (fun s8 wx=>s8 = .int .i64 (max m x1) ∧ wx = w3)
      case first =>
       rcases Int.lt_or_le m x1 with hmx | hmx
       ·have e : max m x1 = x1:=by omega
        go_wp2_with fail
        go_meet
        case rel=>exact ⟨by rw [e],rfl⟩
       ·have e : max m x1 = m:=by omega
        go_wp2_with fail
        go_meet
        case rel=>exact ⟨by rw [e],rfl⟩
      case rest =>
       obtain ⟨rfl,rfl⟩:=hcut
       obtain ⟨w3,rfl⟩ : ∃ w3 : World,w3 = wc:=⟨_,rfl⟩
       have HMX : Hid (0 ≤ max m x1 ∧ max m x1 ≤ 600):=Lib.hid (by have:=HMB.out;omega)
       obtain ⟨m2,hm2⟩ : ∃ m2,m2 = max m x1:=⟨_,rfl⟩
       rw [← hm2] at HMX
       have HM2:=Lib.hid hm2
       rw [← hm2]
       clear hm2
       go_upto_region 16 with fail
       go_cut [15] (fun s15 wx=>∃ (o4 : Nat → Nat) (bw : Nat),s15 = .pointer (some ⟨bw,0,none⟩) ∧ Hid (Wym w g w.heap.size 1 o4 wx vs W) ∧ Hid (Lb wx o4 2 bw 52 [.int .i64 (x1 - off + on),.int .i64 (x2 + tu)]) ∧ Hid (At wx b1 (p1 + t * 8) (InsD.cs ⟨op,a,tx,ng,hi,lo,sc,dy⟩)))
       case first =>
        have hw1 : IntKind.i64.wrap (x1 - off) = x1 - off:=by rw [IntKind.wrap_i64];omega
        have hw2 : IntKind.i64.wrap (x1 - off + on) = x1 - off + on:=by rw [IntKind.wrap_i64];omega
        have hw3 : IntKind.i64.wrap (x2 + tu) = x2 + tu:=by rw [IntKind.wrap_i64];omega
        go_region_held3 (fun w'=>w'.cell? ⟨g,t,none⟩ = some (.slice (some ⟨b2,p2,none⟩) lt C2) ∧ w'.cell? ⟨b2,p2,none⟩ = some (.int .i64 x1) ∧ w'.cell? ⟨b2,p2 + 1,none⟩ = some (.int .i64 x2)) (first | (first | (go_keep;done) | (simp [go_sem];done) | ((try dsimp only);(repeat' apply And.intro) <;> (first | (with_reducible assumption) | ((rw [World.cell?_alloc_lt _ _ _ (by show _ < _;omega)]);go_split_ands;(first | with_reducible assumption | (refine (World.cell?_alloc_lt _ _ _ (by show _ < _;omega)).symm.trans ?_;with_reducible assumption))) | ((rw [World.cell?_setCell_other _ _ _ _ (by intro e;injection e;omega)]);with_reducible assumption) | (go_keep;done) | (simp [go_sem];done) | (simp (disch:=go_size) [*,World.cell?_alloc_some,World.cell?_setCell_far];done))))) (fail)
        go_wp2_with fail
        go_meet
        case rel =>
         refine ⟨relabel o3 w3.heap.size 2,w3.heap.size,rfl, ?_, ?_, ?_⟩
         ·exact Lib.hid ((HM3.out.kept (Below.alloc (Below.refl _ _) (Nat.le_refl _) (.cells #[.int .i64 (x1 - off + on),.int .i64 (x2 + tu)] 52))).drew)
         ·exact Lib.hid ((Lb.new (w:=w3) o3 2 52 [.int .i64 (x1 - off + on),.int .i64 (x2 + tu)] (Nat.le_refl _)).drew)
         ·exact Lib.hid (HAX.out.below (Below.drew (Below.alloc (Below.refl w3.heap.size _) (Nat.le_refl _) (.cells #[.int .i64 (x1 - off + on),.int .i64 (x2 + tu)] 52))))
       case rest =>
        obtain ⟨o4,bw,rfl,HM4,LW4,HA4⟩:=hcut
        obtain ⟨w4,rfl⟩ : ∃ w4 : World,w4 = wc:=⟨_,rfl⟩
        clear y1 y2 e0' e1' ct3 hbl3 hle l1 l2 l3 HAX HM3 h1 h2 f1 f2 f3 f4 f5 f6 f7 c1 c2 c3 c4 HXB HTB2
        obtain ⟨z1,hz1⟩ : ∃ z1,z1 = x1 - off + on:=⟨_,rfl⟩
        obtain ⟨z2,hz2⟩ : ∃ z2,z2 = x2 + tu:=⟨_,rfl⟩
        rw [← hz1,← hz2] at LW4 haf HIN
        clear hz1 hz2
        obtain ⟨e0,e1,-⟩:=HA4.out.ins
        dsimp only at e0 e1
        have l1 : b1 < w4.heap.size:=cell_lt2 e0
        have hbl:=HM4.out.below
        have hle:=hbl.size
        have l3 : g < w4.heap.size:=HM4.out.lw.1.lt
        go_upto_region 17 with fail
        go_cut [123] (fun s123 wx=>s123 = .bool (isJ op) ∧ wx = w4)
        case first =>
         by_cases q1 : op = 101
         ·subst q1
          go_wp2_with fail
          go_meet
          case rel=>exact ⟨rfl,rfl⟩
         ·by_cases q2 : op = 102
          ·subst q2
           go_wp2_with fail
           go_meet
           case rel=>exact ⟨rfl,rfl⟩
          ·have q3 : (op == 101) = false:=by rw [beq_eq_false_iff_ne];exact q1
           have q4 : (op == 102) = false:=by rw [beq_eq_false_iff_ne];exact q2
           have q5 : isJ op = false:=by unfold isJ;rw [decide_eq_false_iff_not];omega
           go_wp2_with fail
           go_meet
           case rel=>exact ⟨by rw [q5],rfl⟩
        case rest =>
         obtain ⟨rfl,rfl⟩:=hcut
         obtain ⟨w4,rfl⟩ : ∃ w4 : World,w4 = wc:=⟨_,rfl⟩
         go_upto_if 123 with fail
         go_cut [15] (fun s15 wx=>∃ (o5 : Nat → Nat) (vs1 : List Value) (W1 : Wy),s15 = .pointer (some ⟨bw,0,none⟩) ∧ Hid (Wym w g w.heap.size 1 o5 wx vs1 W1) ∧ Hid (W1 = if isJ op = true then put W a.toNat (z1,z2) else W) ∧ Hid (isJ op = true → (t : Int) < a ∧ a ≤ is.length) ∧ Hid (Lb wx o5 2 bw 52 [.int .i64 z1,.int .i64 z2]) ∧ Hid (At wx b1 (p1 + t * 8) (InsD.cs ⟨op,a,tx,ng,hi,lo,sc,dy⟩)))
         case first =>
          cases hj : isJ op with
          | false =>
           go_wp2_with fail
           go_meet
           case rel=>exact ⟨o4,vs,W,rfl,HM4,Lib.hid (by rw [hj];rfl),Lib.hid (fun h=>absurd (hj.symm.trans h) (by decide)),LW4,HA4⟩
          | true =>
           by_cases hb : (t : Int) < a ∧ a ≤ is.length
           ·have tokg : (0 : Int) = 0:=rfl
            clear tokg
            obtain ⟨an,ha⟩ : ∃ an : Nat,a = (an : Int):=⟨a.toNat,by omega⟩
            subst ha
            have HB:=Lib.hid hb
            obtain ⟨hb1,hb2⟩:=hb
            have hta : t < an:=by omega
            have han : an ≤ is.length:=by omega
            have ht1 : an < W.length:=by have:=HLN.out;omega
            have hd0 : (0 : Int) ≤ (an : Int):=by omega
            have hd1 : (an : Int) < (is.length : Int) + 1:=by omega
            have hat : Int.toNat (an : Int) = an:=Int.toNat_natCast an
            have c9:=(HM4.out).cell ht1
            have hrow:=(HM4.out).rows an ht1
            have hval:=(HM4.out).val ht1
            have hlen : ((W).getD an []).length ≤ 2000:=by have:=HLW.out an;omega
            obtain ⟨u2,hu2⟩ : ∃ u2,u2 = (vs).getD an undef:=⟨_,rfl⟩
            rw [← hu2] at c9 hrow hval
            obtain ⟨ln,hln⟩ : ∃ ln,ln = ((W).getD an []).length:=⟨_,rfl⟩
            rw [← hln] at hrow hlen
            have HLNE:=Lib.hid hln
            have HVAL:=Lib.hid hval
            have cw0:=(LW4.out).1.cell 0 rfl
            have cw1:=(LW4.out).1.cell 1 rfl
            have lw2:=(LW4.out).1.lt
            clear hu2 hln hval
            have hno : ¬ (o4 b1 = 3 + an):=by have:=HM4.out.turn.num b1 HBW.out;omega
            have hg1 : g ≠ b1:=by
             rintro rfl
             have q1:=HM4.out.turn.num g HBW.out
             have q2:=HM4.out.lw.2
             omega
            have hg2 : g ≠ bw:=by
             rintro rfl
             have q1:=LW4.out.2
             have q2:=HM4.out.lw.2
             omega
            go_wp2_with fail
            refine wp_region_held_drew (S:=fun w'=>w'.cell? ⟨b1,p1 + t * 8 + 1,none⟩ = some (.int .i64 (an : Int)) ∧ w'.cell? ⟨bw,0,none⟩ = some (.int .i64 z1) ∧ w'.cell? ⟨bw,1,none⟩ = some (.int .i64 z2)) (by kernel_rfl) ⟨e1,cw0,cw1⟩ (fun hHeld=>?_)
            refine wpAnyH_take (i:=0) (v:=?_) rfl (by kernel_rfl) (by kernel_rfl) (by kernel_rfl) (fun _ _ _ h=>h) (Or.inl ⟨by rfl, ?_⟩) (by assumption) ?_
            rotate_left
            (focus (intro w hSw;(try dsimp only at hSw);go_simp;(try with_reducible rfl)))
            (try simp only [Act.put,List.setIfInBounds_toArray,List.set_cons_zero,List.set_cons_succ])
            refine wpAnyH_take (i:=1) (v:=?_) rfl (by kernel_rfl) (by kernel_rfl) (by kernel_rfl) (fun _ _ _ h=>h) (Or.inl ⟨by rfl, ?_⟩) (by assumption) ?_
            rotate_left
            (focus (intro w hSw;(try dsimp only at hSw);go_simp;(try with_reducible rfl)))
            (try simp only [Act.put,List.setIfInBounds_toArray,List.set_cons_zero,List.set_cons_succ])
            refine wpAnyH_take (i:=2) (v:=?_) rfl (by kernel_rfl) (by kernel_rfl) (by kernel_rfl) (fun _ _ _ h=>h) (Or.inl ⟨by rfl, ?_⟩) (by assumption) ?_
            rotate_left
            (focus (intro w hSw;(try dsimp only at hSw);go_simp;(try with_reducible rfl)))
            (try simp only [Act.put,List.setIfInBounds_toArray,List.set_cons_zero,List.set_cons_succ])
            refine wpAnyH_take (i:=3) (v:=?_) rfl (by kernel_rfl) (by kernel_rfl) (by kernel_rfl) (fun _ _ _ h=>h) (Or.inl ⟨by rfl, ?_⟩) (by assumption) ?_
            rotate_left
            (focus (intro w hSw;(try dsimp only at hSw);go_simp;(try with_reducible rfl)))
            (try simp only [Act.put,List.setIfInBounds_toArray,List.set_cons_zero,List.set_cons_succ])
            refine wpAnyH_take (i:=4) (v:=?_) rfl (by kernel_rfl) (by kernel_rfl) (by kernel_rfl) (fun _ _ _ h=>h) (Or.inl ⟨by rfl, ?_⟩) (by assumption) ?_
            rotate_left
            (focus (intro w hSw;(try dsimp only at hSw);go_simp;(try with_reducible rfl)))
            (try simp only [Act.put,List.setIfInBounds_toArray,List.set_cons_zero,List.set_cons_succ])
            refine wpAnyH_take (i:=5) (v:=?_) rfl (by kernel_rfl) (by kernel_rfl) (by kernel_rfl) (fun _ _ _ h=>h) (Or.inl ⟨by rfl, ?_⟩) (by assumption) ?_
            rotate_left
            (focus (intro w hSw;(try dsimp only at hSw);go_simp;(try with_reducible rfl)))
            (try simp only [Act.put,List.setIfInBounds_toArray,List.set_cons_zero,List.set_cons_succ])
            refine wpAnyH_take (i:=6) (v:=?_) rfl (by kernel_rfl) (by kernel_rfl) (by kernel_rfl) (fun _ _ _ h=>h) (Or.inl ⟨by rfl, ?_⟩) (by assumption) ?_
            rotate_left
            (focus (intro w hSw;(try dsimp only at hSw);go_simp;(try with_reducible rfl)))
            (try simp only [Act.put,List.setIfInBounds_toArray,List.set_cons_zero,List.set_cons_succ])
            refine wpAnyH_take (i:=7) (v:=?_) rfl (by kernel_rfl) (by kernel_rfl) (by kernel_rfl) (fun _ _ _ h=>h) (Or.inl ⟨by rfl, ?_⟩) (by assumption) ?_
            rotate_left
            (focus (intro w hSw;(try dsimp only at hSw);go_simp;(try with_reducible rfl)))
            (try simp only [Act.put,List.setIfInBounds_toArray,List.set_cons_zero,List.set_cons_succ])
            refine wpAnyH_take (i:=8) (v:=?_) rfl (by kernel_rfl) (by kernel_rfl) (by kernel_rfl) (fun _ _ _ h=>h) (Or.inl ⟨by rfl, ?_⟩) (by assumption) ?_
            rotate_left
            (focus (intro w hSw;(try dsimp only at hSw);go_simp;(try with_reducible rfl)))
            (try simp only [Act.put,List.setIfInBounds_toArray,List.set_cons_zero,List.set_cons_succ])
            refine wpAnyH_take (i:=9) (v:=?_) rfl (by kernel_rfl) (by kernel_rfl) (by kernel_rfl) (fun _ _ _ h=>h) (Or.inl ⟨by rfl, ?_⟩) (by assumption) ?_
            rotate_left
            (focus (intro w hSw;(try dsimp only at hSw);go_simp;(try with_reducible rfl)))
            (try simp only [Act.put,List.setIfInBounds_toArray,List.set_cons_zero,List.set_cons_succ])
            refine wpAnyH_take (i:=10) (v:=?_) rfl (by kernel_rfl) (by kernel_rfl) (by kernel_rfl) (fun _ _ _ h=>h) (Or.inl ⟨by rfl, ?_⟩) (by assumption) ?_
            rotate_left
            (focus (intro w hSw;(try dsimp only at hSw);go_simp;(try with_reducible rfl)))
            (try simp only [Act.put,List.setIfInBounds_toArray,List.set_cons_zero,List.set_cons_succ])
            refine wpAnyH_take (i:=11) (v:=?_) rfl (by kernel_rfl) (by kernel_rfl) (by kernel_rfl) (fun _ _ _ h=>h) (Or.inl ⟨by rfl, ?_⟩) (by assumption) ?_
            rotate_left
            (focus (intro w hSw;(try dsimp only at hSw);go_simp;(try with_reducible rfl)))
            (try simp only [Act.put,List.setIfInBounds_toArray,List.set_cons_zero,List.set_cons_succ])
            refine wpAnyH_take (i:=12) (v:=?_) rfl (by kernel_rfl) (by kernel_rfl) (by kernel_rfl) (fun _ _ _ h=>h) (Or.inl ⟨by rfl, ?_⟩) (by assumption) ?_
            rotate_left
            (focus (intro w hSw;(try dsimp only at hSw);go_simp;(try with_reducible rfl)))
            (try simp only [Act.put,List.setIfInBounds_toArray,List.set_cons_zero,List.set_cons_succ])
            refine wpAnyH_take (i:=14) (v:=?_) rfl (by kernel_rfl) (by kernel_rfl) (by kernel_rfl) (fun _ _ _ h=>h) (Or.inl ⟨by rfl, ?_⟩) (by assumption) ?_
            rotate_left
            (focus (intro w hSw;(try dsimp only at hSw);go_simp;(try with_reducible rfl)))
            (try simp only [Act.put,List.setIfInBounds_toArray,List.set_cons_zero,List.set_cons_succ])
            refine wpAnyH_ready (rs:=[13,15]) (by kernel_rfl) (by simp) ?_
            refine AllReadyH.cons rfl (fun K hK=>?_) (AllReadyH.cons rfl (fun K hK=>?_) AllReadyH.nil)
            ·(have tok13 : True:=trivial;clear tok13;go_simp)
             refine hK.out _ _ ⟨e1,cw0,cw1⟩ (fun hHeld=>?_)
             clear hK K
             (try simp only [Act.put,List.setIfInBounds_toArray,List.set_cons_zero,List.set_cons_succ])
             refine wpAnyH_ready (rs:=[15]) (by kernel_rfl) (by simp) ?_
             refine AllReadyH.cons (by rw [List.getElem?_toArray];exact rfl) (fun K hK=>?_) AllReadyH.nil
             (have tok15 : True:=trivial;clear tok15;go_simp)
             refine hK.out _ _ ?_ (fun hHeld=>?_)
             (focus (first | (first | (go_keep;done) | (simp [go_sem];done) | ((try dsimp only);(repeat' apply And.intro) <;> (first | (with_reducible assumption) | ((rw [World.cell?_alloc_lt _ _ _ (by show _ < _;omega)]);go_split_ands;(first | with_reducible assumption | (refine (World.cell?_alloc_lt _ _ _ (by show _ < _;omega)).symm.trans ?_;with_reducible assumption))) | ((rw [World.cell?_setCell_other _ _ _ _ (by intro e;injection e;omega)]);with_reducible assumption) | (go_keep;done) | (simp [go_sem];done) | (simp (disch:=go_size) [*,World.cell?_alloc_some,World.cell?_setCell_far];done))))))
             clear hK K
             (try simp only [Act.put,List.setIfInBounds_toArray,List.set_cons_zero,List.set_cons_succ])
             refine wpAnyH_ready (rs:=[16]) (by kernel_rfl) (by simp) ?_
             refine AllReadyH.cons (by rw [List.getElem?_toArray];exact rfl) (fun K hK=>?_) AllReadyH.nil
             (refine step_pushR rfl _ _ 54 52 2 16 (.agg #[.int .i64 0,.int .i64 0]) rfl Tryd.underlying54 info_way rfl (by decide) _ (3 + an) u2 ln (wcs ((W).getD an [])) rfl (by first | with_reducible exact (hrow.alloc _).drew | with_reducible exact hrow.alloc _ | with_reducible exact hrow.drew.alloc _) ⟨_,0,none⟩ 1 1 [.int .i64 z1,.int .i64 z2] rfl rfl (by first | with_reducible exact news_newd _ _ _ _ | with_reducible exact news_new _ _ _ _) (two_cells _ _) (by decide) (by omega) (by unfold maxLen;omega) ?_;intro g5 cap5 w9 hr5 ht5 hlt5;have hh5:=Lb.turn (l:=1) (g:=g) (t:=54) (by first | with_reducible exact ((HM4.out).lw.alloc _).drew | with_reducible exact (HM4.out).lw.alloc _ | with_reducible exact (HM4.out).lw.drew.alloc _) ht5 (by show ¬ (1 = _);omega);have c5:=hh5.1.cell an HVAL.out;have f5:=hh5.1.frozen an;(have AT9:=At.turn (S:=(· = 3 + an)) (by first | with_reducible exact (HA4.out.alloc _).drew | with_reducible exact HA4.out.alloc _ | with_reducible exact HA4.out.drew.alloc _ : At _ b1 (p1 + t * 8) (InsD.cs ⟨op,(an : Int),tx,ng,hi,lo,sc,dy⟩)) ht5 hno;have e91 : w9.cell? ⟨b1,p1 + t * 8 + 1,none⟩ = some (.int .i64 (an : Int)):=AT9.ins.2.1;have hw9:=Lb.turn (l:=2) (g:=bw) (t:=52) (by first | with_reducible exact (LW4.out.alloc _).drew | with_reducible exact LW4.out.alloc _ | with_reducible exact LW4.out.drew.alloc _) ht5 (by show ¬ (2 = _);omega);have cw90:=hw9.1.cell 0 rfl;have cw91:=hw9.1.cell 1 rfl))
             refine hK.out _ _ ⟨e91,cw90,cw91⟩ (fun hHeld=>?_)
             clear hK K
             (try simp only [Act.put,List.setIfInBounds_toArray,List.set_cons_zero,List.set_cons_succ])
             refine wpAnyH_take (i:=17) (v:=?_) rfl (by kernel_rfl) (by kernel_rfl) (by kernel_rfl) (fun _ _ _ h=>h) (Or.inl ⟨by rfl, ?_⟩) (by assumption) ?_
             rotate_left
             (focus (intro w hSw;(try dsimp only at hSw);go_simp;(try with_reducible rfl)))
             (try simp only [Act.put,List.setIfInBounds_toArray,List.set_cons_zero,List.set_cons_succ])
             refine wpAnyH_ready (rs:=[18]) (by kernel_rfl) (by simp) ?_
             refine AllReadyH.cons (by rw [List.getElem?_toArray];exact rfl) (fun K hK=>?_) AllReadyH.nil
             (have tok18 : True:=trivial;clear tok18;go_simp)
             refine hK.out _ _ ⟨(World.cell?_setCell_far _ _ _ _ hg1).trans e91,(World.cell?_setCell_far _ _ _ _ hg2).trans cw90,(World.cell?_setCell_far _ _ _ _ hg2).trans cw91⟩ (fun hHeld=>?_)
             clear hK K
             (try simp only [Act.put,List.setIfInBounds_toArray,List.set_cons_zero,List.set_cons_succ])
             refine wpAnyH_done (by kernel_rfl) ?_ _
             go_wp2_with fail
             go_meet
             case rel =>
              rw [HLNE.out] at hr5
              (first | (have hpush:=Wym.push (x:=(z1,z2)) ((HM4.out.alloc _).drew) ht1 ht5 hr5) | (have hpush:=Wym.push (x:=(z1,z2)) (HM4.out.alloc _) ht1 ht5 hr5) | (have hpush:=Wym.push (x:=(z1,z2)) (HM4.out.drew.alloc _) ht1 ht5 hr5))
              rw [← HLNE.out] at hpush
              have HPU:=Lib.hid hpush
              have HW9:=Lib.hid (hw9.far (p:=⟨g,an,none⟩) (by show _ ≠ 2;rw [hh5.2];decide) (.slice (some ⟨g5,0,none⟩) (ln + 1) cap5))
              have HA9:=Lib.hid (AT9.far (p:=⟨g,an,none⟩) (Ne.symm hg1) (.slice (some ⟨g5,0,none⟩) (ln + 1) cap5))
              have HWE : Hid (put W an (z1,z2) = if isJ op = true then put W ((an : Int).toNat) (z1,z2) else W):=Lib.hid (by rw [hat,hj];rfl)
              have HBE : Hid (isJ op = true → (t : Int) < (an : Int) ∧ (an : Int) ≤ is.length):=Lib.hid (fun _=>⟨hb1,hb2⟩)
              exact ⟨_,_,_,rfl,HPU,HWE,HBE,HW9,HA9⟩
            ·(have tok15 : True:=trivial;clear tok15;go_simp)
             refine hK.out _ _ ?_ (fun hHeld=>?_)
             (focus (first | (first | (go_keep;done) | (simp [go_sem];done) | ((try dsimp only);(repeat' apply And.intro) <;> (first | (with_reducible assumption) | ((rw [World.cell?_alloc_lt _ _ _ (by show _ < _;omega)]);go_split_ands;(first | with_reducible assumption | (refine (World.cell?_alloc_lt _ _ _ (by show _ < _;omega)).symm.trans ?_;with_reducible assumption))) | ((rw [World.cell?_setCell_other _ _ _ _ (by intro e;injection e;omega)]);with_reducible assumption) | (go_keep;done) | (simp [go_sem];done) | (simp (disch:=go_size) [*,World.cell?_alloc_some,World.cell?_setCell_far];done))))))
             clear hK K
             (try simp only [Act.put,List.setIfInBounds_toArray,List.set_cons_zero,List.set_cons_succ])
             refine wpAnyH_ready (rs:=[13]) (by kernel_rfl) (by simp) ?_
             refine AllReadyH.cons (by rw [List.getElem?_toArray];exact rfl) (fun K hK=>?_) AllReadyH.nil
             (have tok13 : True:=trivial;clear tok13;go_simp)
             refine hK.out _ _ ?_ (fun hHeld=>?_)
             (focus (first | (first | (go_keep;done) | (simp [go_sem];done) | ((try dsimp only);(repeat' apply And.intro) <;> (first | (with_reducible assumption) | ((rw [World.cell?_alloc_lt _ _ _ (by show _ < _;omega)]);go_split_ands;(first | with_reducible assumption | (refine (World.cell?_alloc_lt _ _ _ (by show _ < _;omega)).symm.trans ?_;with_reducible assumption))) | ((rw [World.cell?_setCell_other _ _ _ _ (by intro e;injection e;omega)]);with_reducible assumption) | (go_keep;done) | (simp [go_sem];done) | (simp (disch:=go_size) [*,World.cell?_alloc_some,World.cell?_setCell_far];done))))))
             clear hK K
             (try simp only [Act.put,List.setIfInBounds_toArray,List.set_cons_zero,List.set_cons_succ])
             refine wpAnyH_ready (rs:=[16]) (by kernel_rfl) (by simp) ?_
             refine AllReadyH.cons (by rw [List.getElem?_toArray];exact rfl) (fun K hK=>?_) AllReadyH.nil
             (refine step_pushR rfl _ _ 54 52 2 16 (.agg #[.int .i64 0,.int .i64 0]) rfl Tryd.underlying54 info_way rfl (by decide) _ (3 + an) u2 ln (wcs ((W).getD an [])) rfl (by first | with_reducible exact (hrow.alloc _).drew | with_reducible exact hrow.alloc _ | with_reducible exact hrow.drew.alloc _) ⟨_,0,none⟩ 1 1 [.int .i64 z1,.int .i64 z2] rfl rfl (by first | with_reducible exact news_newd _ _ _ _ | with_reducible exact news_new _ _ _ _) (two_cells _ _) (by decide) (by omega) (by unfold maxLen;omega) ?_;intro g5 cap5 w9 hr5 ht5 hlt5;have hh5:=Lb.turn (l:=1) (g:=g) (t:=54) (by first | with_reducible exact ((HM4.out).lw.alloc _).drew | with_reducible exact (HM4.out).lw.alloc _ | with_reducible exact (HM4.out).lw.drew.alloc _) ht5 (by show ¬ (1 = _);omega);have c5:=hh5.1.cell an HVAL.out;have f5:=hh5.1.frozen an;(have AT9:=At.turn (S:=(· = 3 + an)) (by first | with_reducible exact (HA4.out.alloc _).drew | with_reducible exact HA4.out.alloc _ | with_reducible exact HA4.out.drew.alloc _ : At _ b1 (p1 + t * 8) (InsD.cs ⟨op,(an : Int),tx,ng,hi,lo,sc,dy⟩)) ht5 hno;have e91 : w9.cell? ⟨b1,p1 + t * 8 + 1,none⟩ = some (.int .i64 (an : Int)):=AT9.ins.2.1;have hw9:=Lb.turn (l:=2) (g:=bw) (t:=52) (by first | with_reducible exact (LW4.out.alloc _).drew | with_reducible exact LW4.out.alloc _ | with_reducible exact LW4.out.drew.alloc _) ht5 (by show ¬ (2 = _);omega);have cw90:=hw9.1.cell 0 rfl;have cw91:=hw9.1.cell 1 rfl))
             refine hK.out _ _ ⟨e91,cw90,cw91⟩ (fun hHeld=>?_)
             clear hK K
             (try simp only [Act.put,List.setIfInBounds_toArray,List.set_cons_zero,List.set_cons_succ])
             refine wpAnyH_take (i:=17) (v:=?_) rfl (by kernel_rfl) (by kernel_rfl) (by kernel_rfl) (fun _ _ _ h=>h) (Or.inl ⟨by rfl, ?_⟩) (by assumption) ?_
             rotate_left
             (focus (intro w hSw;(try dsimp only at hSw);go_simp;(try with_reducible rfl)))
             (try simp only [Act.put,List.setIfInBounds_toArray,List.set_cons_zero,List.set_cons_succ])
             refine wpAnyH_ready (rs:=[18]) (by kernel_rfl) (by simp) ?_
             refine AllReadyH.cons (by rw [List.getElem?_toArray];exact rfl) (fun K hK=>?_) AllReadyH.nil
             (have tok18 : True:=trivial;clear tok18;go_simp)
             refine hK.out _ _ ⟨(World.cell?_setCell_far _ _ _ _ hg1).trans e91,(World.cell?_setCell_far _ _ _ _ hg2).trans cw90,(World.cell?_setCell_far _ _ _ _ hg2).trans cw91⟩ (fun hHeld=>?_)
             clear hK K
             (try simp only [Act.put,List.setIfInBounds_toArray,List.set_cons_zero,List.set_cons_succ])
             refine wpAnyH_done (by kernel_rfl) ?_ _
             go_wp2_with fail
             go_meet
             case rel =>
              rw [HLNE.out] at hr5
              (first | (have hpush:=Wym.push (x:=(z1,z2)) ((HM4.out.alloc _).drew) ht1 ht5 hr5) | (have hpush:=Wym.push (x:=(z1,z2)) (HM4.out.alloc _) ht1 ht5 hr5) | (have hpush:=Wym.push (x:=(z1,z2)) (HM4.out.drew.alloc _) ht1 ht5 hr5))
              rw [← HLNE.out] at hpush
              have HPU:=Lib.hid hpush
              have HW9:=Lib.hid (hw9.far (p:=⟨g,an,none⟩) (by show _ ≠ 2;rw [hh5.2];decide) (.slice (some ⟨g5,0,none⟩) (ln + 1) cap5))
              have HA9:=Lib.hid (AT9.far (p:=⟨g,an,none⟩) (Ne.symm hg1) (.slice (some ⟨g5,0,none⟩) (ln + 1) cap5))
              have HWE : Hid (put W an (z1,z2) = if isJ op = true then put W ((an : Int).toNat) (z1,z2) else W):=Lib.hid (by rw [hat,hj];rfl)
              have HBE : Hid (isJ op = true → (t : Int) < (an : Int) ∧ (an : Int) ≤ is.length):=Lib.hid (fun _=>⟨hb1,hb2⟩)
              exact ⟨_,_,_,rfl,HPU,HWE,HBE,HW9,HA9⟩
           ·have hr : (0,2) = R:=by rw [← HVG3.out,dGo_out HH.out hj hb]
            subst hr
            have hb2 : a ≤ t ∨ (is.length : Int) < a:=by omega
            clear hb
            rcases hb2 with hb2 | hb2
            ·go_wp2_with fail
             go_ret2
             exact ⟨rfl,by (repeat' first|(with_reducible first|exact blR _ _|assumption|refine blD ?_|refine blN ?_ _)|((with_reducible first|refine blA ?_ ?_ _|refine blS ?_ ?_ _|refine blT (by assumption) ?_ ?_);focus (go_size;done)))⟩
            ·have hb3 : ¬ a ≤ t:=by omega
             go_wp2_with fail
             go_ret2
             exact ⟨rfl,by (repeat' first|(with_reducible first|exact blR _ _|assumption|refine blD ?_|refine blN ?_ _)|((with_reducible first|refine blA ?_ ?_ _|refine blS ?_ ?_ _|refine blT (by assumption) ?_ ?_);focus (go_size;done)))⟩
         case rest =>
          obtain ⟨o5,vs1,W1,rfl,HM5,HW1,HJB,LW5,HA5⟩:=hcut
          obtain ⟨w5,rfl⟩ : ∃ w5 : World,w5 = wc:=⟨_,rfl⟩
          have hgo:=dGo_go (n:=is.length) (f:=1) (m:=m) (r:=(pairs is).drop (t + 1)) HH.out HZ.out hcc.out HJB.out
          rw [HVG3.out] at hgo
          unfold wStep at hgo
          dsimp only at hgo
          rw [haf.out,← HW1.out,← HM2.out] at hgo
          have HGO:=Lib.hid hgo
          have HLN1 : Hid (List.length W1 = is.length + 1):=Lib.hid (by rw [HW1.out];have:=HLN.out;split <;> simp [put_length,this])
          have HBD1 : Hid (∀ k x,x ∈ W1.getD k [] → InB (t + 1) x):=Lib.hid (fun k x hx=>by
           rw [HW1.out] at hx
           split at hx
           ·rename_i hj
            have:=HJB.out hj
            rcases put_mem (by have:=HLN.out;omega) hx with rfl | hx
            ·exact HIN.out
            ·exact (HBD.out k x hx).up
           ·exact (HBD.out k x hx).up)
          have HLW1 : Hid (∀ k,(W1.getD k []).length ≤ 2 * t + 2):=Lib.hid (fun k=>by
           rw [HW1.out]
           split
           ·rename_i hj
            have:=HJB.out hj
            exact put_len (by have:=HLN.out;omega) (HLW.out k)
           ·have:=HLW.out k;omega)
          obtain ⟨e0,e1,-⟩:=HA5.out.ins
          dsimp only at e0 e1
          have l1 : b1 < w5.heap.size:=cell_lt2 e0
          have hbl:=HM5.out.below
          have hle:=hbl.size
          have l3 : g < w5.heap.size:=HM5.out.lw.1.lt
          clear hgo HVG3 HH HZ hcc haf HW1 HJB HM2 HM4 LW4 HA4 HBD HLW HLN HT HMB
          by_cases q1 : op = 101
          ·have q2 : (op != 101) = false:=by rw [bne_eq_false_iff_eq];exact q1
           have hgo:=HGO.out
           rw [if_pos q1] at hgo
           have HG2:=Lib.hid hgo.symm
           clear hgo HGO q1
           go_wp2_with fail
           go_roundg (gk - 1)
           case measure=>have:=HK.out;omega
           case rel=>exact ⟨t + 1,m2,o5,vs1,W1,by have:=HK.out;omega,by go_num,rfl,HM5,HLN1,HBD1,Lib.hid (fun k=>by have:=HLW1.out k;omega),HMX,HG2⟩
          ·have q2 : (op != 101) = true:=by rw [bne_iff_ne];exact q1
           have hgo:=HGO.out
           rw [if_neg q1] at hgo
           have HG2:=Lib.hid hgo.symm
           clear hgo HGO q1
           obtain ⟨t1,htt⟩ : ∃ t1,t1 = t + 1:=⟨_,rfl⟩
           have ht1 : t1 < W1.length:=by have:=HLN1.out;omega
           have hwt : IntKind.i64.wrap ((t : Int) + 1) = (t1 : Int):=by rw [IntKind.wrap_i64];omega
           have hd0 : (0 : Int) ≤ (t1 : Int):=by omega
           have hd1 : (t1 : Int) < (is.length : Int) + 1:=by omega
           have HTT:=Lib.hid htt
           have tokh : (1 : Int) = 1:=rfl
           clear tokh htt
           have c9:=(HM5.out).cell ht1
           have hrow:=(HM5.out).rows t1 ht1
           have hval:=(HM5.out).val ht1
           have hlen : ((W1).getD t1 []).length ≤ 2000:=by have:=HLW1.out t1;omega
           obtain ⟨u2,hu2⟩ : ∃ u2,u2 = (vs1).getD t1 undef:=⟨_,rfl⟩
           rw [← hu2] at c9 hrow hval
           obtain ⟨ln,hln⟩ : ∃ ln,ln = ((W1).getD t1 []).length:=⟨_,rfl⟩
           rw [← hln] at hrow hlen
           have HLNE:=Lib.hid hln
           have HVAL:=Lib.hid hval
           have cw0:=(LW5.out).1.cell 0 rfl
           have cw1:=(LW5.out).1.cell 1 rfl
           have lw2:=(LW5.out).1.lt
           clear hu2 hln hval
           have hg2 : g ≠ bw:=by
            rintro rfl
            have q1:=LW5.out.2
            have q2:=HM5.out.lw.2
            omega
           go_wp2_with fail
           refine wp_region_held_drew (S:=fun w'=>w'.cell? ⟨bw,0,none⟩ = some (.int .i64 z1) ∧ w'.cell? ⟨bw,1,none⟩ = some (.int .i64 z2)) (by kernel_rfl) ⟨cw0,cw1⟩ (fun hHeld=>?_)
           refine wpAnyH_take (i:=0) (v:=?_) rfl (by kernel_rfl) (by kernel_rfl) (by kernel_rfl) (fun _ _ _ h=>h) (Or.inl ⟨by rfl, ?_⟩) (by assumption) ?_
           rotate_left
           (focus (intro w hSw;(try dsimp only at hSw);go_simp;(try with_reducible rfl)))
           (try simp only [Act.put,List.setIfInBounds_toArray,List.set_cons_zero,List.set_cons_succ])
           refine wpAnyH_take (i:=1) (v:=?_) rfl (by kernel_rfl) (by kernel_rfl) (by kernel_rfl) (fun _ _ _ h=>h) (Or.inl ⟨by rfl, ?_⟩) (by assumption) ?_
           rotate_left
           (focus (intro w hSw;(try dsimp only at hSw);go_simp;(try with_reducible rfl)))
           (try simp only [Act.put,List.setIfInBounds_toArray,List.set_cons_zero,List.set_cons_succ])
           refine wpAnyH_take (i:=2) (v:=?_) rfl (by kernel_rfl) (by kernel_rfl) (by kernel_rfl) (fun _ _ _ h=>h) (Or.inl ⟨by rfl, ?_⟩) (by assumption) ?_
           rotate_left
           (focus (intro w hSw;(try dsimp only at hSw);go_simp;(try with_reducible rfl)))
           (try simp only [Act.put,List.setIfInBounds_toArray,List.set_cons_zero,List.set_cons_succ])
           refine wpAnyH_take (i:=3) (v:=?_) rfl (by kernel_rfl) (by kernel_rfl) (by kernel_rfl) (fun _ _ _ h=>h) (Or.inl ⟨by rfl, ?_⟩) (by assumption) ?_
           rotate_left
           (focus (intro w hSw;(try dsimp only at hSw);go_simp;(try with_reducible rfl)))
           (try simp only [Act.put,List.setIfInBounds_toArray,List.set_cons_zero,List.set_cons_succ])
           refine wpAnyH_take (i:=4) (v:=?_) rfl (by kernel_rfl) (by kernel_rfl) (by kernel_rfl) (fun _ _ _ h=>h) (Or.inl ⟨by rfl, ?_⟩) (by assumption) ?_
           rotate_left
           (focus (intro w hSw;(try dsimp only at hSw);go_simp;(try with_reducible rfl)))
           (try simp only [Act.put,List.setIfInBounds_toArray,List.set_cons_zero,List.set_cons_succ])
           refine wpAnyH_take (i:=5) (v:=?_) rfl (by kernel_rfl) (by kernel_rfl) (by kernel_rfl) (fun _ _ _ h=>h) (Or.inl ⟨by rfl, ?_⟩) (by assumption) ?_
           rotate_left
           (focus (intro w hSw;(try dsimp only at hSw);go_simp;(try with_reducible rfl)))
           (try simp only [Act.put,List.setIfInBounds_toArray,List.set_cons_zero,List.set_cons_succ])
           refine wpAnyH_take (i:=6) (v:=?_) rfl (by kernel_rfl) (by kernel_rfl) (by kernel_rfl) (fun _ _ _ h=>h) (Or.inl ⟨by rfl, ?_⟩) (by assumption) ?_
           rotate_left
           (focus (intro w hSw;(try dsimp only at hSw);go_simp;(try with_reducible rfl)))
           (try simp only [Act.put,List.setIfInBounds_toArray,List.set_cons_zero,List.set_cons_succ])
           refine wpAnyH_take (i:=8) (v:=?_) rfl (by kernel_rfl) (by kernel_rfl) (by kernel_rfl) (fun _ _ _ h=>h) (Or.inl ⟨by rfl, ?_⟩) (by assumption) ?_
           rotate_left
           (focus (intro w hSw;(try dsimp only at hSw);go_simp;(try with_reducible rfl)))
           (try simp only [Act.put,List.setIfInBounds_toArray,List.set_cons_zero,List.set_cons_succ])
           refine wpAnyH_ready (rs:=[7,9]) (by kernel_rfl) (by simp) ?_
           refine AllReadyH.cons rfl (fun K hK=>?_) (AllReadyH.cons rfl (fun K hK=>?_) AllReadyH.nil)
           ·(have tok7 : True:=trivial;clear tok7;go_simp)
            refine hK.out _ _ ⟨cw0,cw1⟩ (fun hHeld=>?_)
            clear hK K
            (try simp only [Act.put,List.setIfInBounds_toArray,List.set_cons_zero,List.set_cons_succ])
            refine wpAnyH_ready (rs:=[9]) (by kernel_rfl) (by simp) ?_
            refine AllReadyH.cons (by rw [List.getElem?_toArray];exact rfl) (fun K hK=>?_) AllReadyH.nil
            (have tok9 : True:=trivial;clear tok9;go_simp)
            refine hK.out _ _ ?_ (fun hHeld=>?_)
            (focus (first | (first | (go_keep;done) | (simp [go_sem];done) | ((try dsimp only);(repeat' apply And.intro) <;> (first | (with_reducible assumption) | ((rw [World.cell?_alloc_lt _ _ _ (by show _ < _;omega)]);go_split_ands;(first | with_reducible assumption | (refine (World.cell?_alloc_lt _ _ _ (by show _ < _;omega)).symm.trans ?_;with_reducible assumption))) | ((rw [World.cell?_setCell_other _ _ _ _ (by intro e;injection e;omega)]);with_reducible assumption) | (go_keep;done) | (simp [go_sem];done) | (simp (disch:=go_size) [*,World.cell?_alloc_some,World.cell?_setCell_far];done))))))
            clear hK K
            (try simp only [Act.put,List.setIfInBounds_toArray,List.set_cons_zero,List.set_cons_succ])
            refine wpAnyH_ready (rs:=[10]) (by kernel_rfl) (by simp) ?_
            refine AllReadyH.cons (by rw [List.getElem?_toArray];exact rfl) (fun K hK=>?_) AllReadyH.nil
            (refine step_pushR rfl _ _ 54 52 2 16 (.agg #[.int .i64 0,.int .i64 0]) rfl Tryd.underlying54 info_way rfl (by decide) _ (3 + t1) u2 ln (wcs ((W1).getD t1 [])) rfl (by first | with_reducible exact (hrow.alloc _).drew | with_reducible exact hrow.alloc _ | with_reducible exact hrow.drew.alloc _) ⟨_,0,none⟩ 1 1 [.int .i64 z1,.int .i64 z2] rfl rfl (by first | with_reducible exact news_newd _ _ _ _ | with_reducible exact news_new _ _ _ _) (two_cells _ _) (by decide) (by omega) (by unfold maxLen;omega) ?_;intro g5 cap5 w9 hr5 ht5 hlt5;have hh5:=Lb.turn (l:=1) (g:=g) (t:=54) (by first | with_reducible exact ((HM5.out).lw.alloc _).drew | with_reducible exact (HM5.out).lw.alloc _ | with_reducible exact (HM5.out).lw.drew.alloc _) ht5 (by show ¬ (1 = _);omega);have c5:=hh5.1.cell t1 HVAL.out;have f5:=hh5.1.frozen t1;(have hw9:=Lb.turn (l:=2) (g:=bw) (t:=52) (by first | with_reducible exact (LW5.out.alloc _).drew | with_reducible exact LW5.out.alloc _ | with_reducible exact LW5.out.drew.alloc _) ht5 (by show ¬ (2 = _);omega);have cw90:=hw9.1.cell 0 rfl;have cw91:=hw9.1.cell 1 rfl))
            refine hK.out _ _ ⟨cw90,cw91⟩ (fun hHeld=>?_)
            clear hK K
            (try simp only [Act.put,List.setIfInBounds_toArray,List.set_cons_zero,List.set_cons_succ])
            refine wpAnyH_take (i:=11) (v:=?_) rfl (by kernel_rfl) (by kernel_rfl) (by kernel_rfl) (fun _ _ _ h=>h) (Or.inl ⟨by rfl, ?_⟩) (by assumption) ?_
            rotate_left
            (focus (intro w hSw;(try dsimp only at hSw);go_simp;(try with_reducible rfl)))
            (try simp only [Act.put,List.setIfInBounds_toArray,List.set_cons_zero,List.set_cons_succ])
            refine wpAnyH_ready (rs:=[12]) (by kernel_rfl) (by simp) ?_
            refine AllReadyH.cons (by rw [List.getElem?_toArray];exact rfl) (fun K hK=>?_) AllReadyH.nil
            (have tok12 : True:=trivial;clear tok12;go_simp)
            refine hK.out _ _ ⟨(World.cell?_setCell_far _ _ _ _ hg2).trans cw90,(World.cell?_setCell_far _ _ _ _ hg2).trans cw91⟩ (fun hHeld=>?_)
            clear hK K
            (try simp only [Act.put,List.setIfInBounds_toArray,List.set_cons_zero,List.set_cons_succ])
            refine wpAnyH_done (by kernel_rfl) ?_ _
            go_wp2_with fail
            go_roundg (gk - 1)
            case measure=>have:=HK.out;omega
            case rel =>
             rw [HLNE.out] at hr5
             (first | (have hpush:=Wym.push (x:=(z1,z2)) ((HM5.out.alloc _).drew) ht1 ht5 hr5) | (have hpush:=Wym.push (x:=(z1,z2)) (HM5.out.alloc _) ht1 ht5 hr5) | (have hpush:=Wym.push (x:=(z1,z2)) (HM5.out.drew.alloc _) ht1 ht5 hr5))
             rw [← HLNE.out] at hpush
             have HPU:=Lib.hid hpush
             have HL2 : Hid ((put W1 t1 (z1,z2)).length = is.length + 1):=Lib.hid (by rw [put_length];exact HLN1.out)
             have HB2 : Hid (∀ k x,x ∈ (put W1 t1 (z1,z2)).getD k [] → InB (t + 1) x):=Lib.hid (fun k x hx=>by
              rcases put_mem ht1 hx with rfl | hx
              ·exact HIN.out
              ·exact HBD1.out k x hx)
             have HW2 : Hid (∀ k,((put W1 t1 (z1,z2)).getD k []).length ≤ 2 * (t + 1) + 1):=Lib.hid (fun k=>put_len ht1 (HLW1.out k))
             exact ⟨t + 1,m2,_,_,put W1 t1 (z1,z2),by have:=HK.out;omega,by (have e9:=HTT.out;subst e9;first | rfl | go_num),rfl,HPU,HL2,HB2,HW2,HMX,Lib.hid (by rw [HTT.out];exact HG2.out)⟩
           ·(have tok9 : True:=trivial;clear tok9;go_simp)
            refine hK.out _ _ ?_ (fun hHeld=>?_)
            (focus (first | (first | (go_keep;done) | (simp [go_sem];done) | ((try dsimp only);(repeat' apply And.intro) <;> (first | (with_reducible assumption) | ((rw [World.cell?_alloc_lt _ _ _ (by show _ < _;omega)]);go_split_ands;(first | with_reducible assumption | (refine (World.cell?_alloc_lt _ _ _ (by show _ < _;omega)).symm.trans ?_;with_reducible assumption))) | ((rw [World.cell?_setCell_other _ _ _ _ (by intro e;injection e;omega)]);with_reducible assumption) | (go_keep;done) | (simp [go_sem];done) | (simp (disch:=go_size) [*,World.cell?_alloc_some,World.cell?_setCell_far];done))))))
            clear hK K
            (try simp only [Act.put,List.setIfInBounds_toArray,List.set_cons_zero,List.set_cons_succ])
            refine wpAnyH_ready (rs:=[7]) (by kernel_rfl) (by simp) ?_
            refine AllReadyH.cons (by rw [List.getElem?_toArray];exact rfl) (fun K hK=>?_) AllReadyH.nil
            (have tok7 : True:=trivial;clear tok7;go_simp)
            refine hK.out _ _ ?_ (fun hHeld=>?_)
            (focus (first | (first | (go_keep;done) | (simp [go_sem];done) | ((try dsimp only);(repeat' apply And.intro) <;> (first | (with_reducible assumption) | ((rw [World.cell?_alloc_lt _ _ _ (by show _ < _;omega)]);go_split_ands;(first | with_reducible assumption | (refine (World.cell?_alloc_lt _ _ _ (by show _ < _;omega)).symm.trans ?_;with_reducible assumption))) | ((rw [World.cell?_setCell_other _ _ _ _ (by intro e;injection e;omega)]);with_reducible assumption) | (go_keep;done) | (simp [go_sem];done) | (simp (disch:=go_size) [*,World.cell?_alloc_some,World.cell?_setCell_far];done))))))
            clear hK K
            (try simp only [Act.put,List.setIfInBounds_toArray,List.set_cons_zero,List.set_cons_succ])
            refine wpAnyH_ready (rs:=[10]) (by kernel_rfl) (by simp) ?_
            refine AllReadyH.cons (by rw [List.getElem?_toArray];exact rfl) (fun K hK=>?_) AllReadyH.nil
            (refine step_pushR rfl _ _ 54 52 2 16 (.agg #[.int .i64 0,.int .i64 0]) rfl Tryd.underlying54 info_way rfl (by decide) _ (3 + t1) u2 ln (wcs ((W1).getD t1 [])) rfl (by first | with_reducible exact (hrow.alloc _).drew | with_reducible exact hrow.alloc _ | with_reducible exact hrow.drew.alloc _) ⟨_,0,none⟩ 1 1 [.int .i64 z1,.int .i64 z2] rfl rfl (by first | with_reducible exact news_newd _ _ _ _ | with_reducible exact news_new _ _ _ _) (two_cells _ _) (by decide) (by omega) (by unfold maxLen;omega) ?_;intro g5 cap5 w9 hr5 ht5 hlt5;have hh5:=Lb.turn (l:=1) (g:=g) (t:=54) (by first | with_reducible exact ((HM5.out).lw.alloc _).drew | with_reducible exact (HM5.out).lw.alloc _ | with_reducible exact (HM5.out).lw.drew.alloc _) ht5 (by show ¬ (1 = _);omega);have c5:=hh5.1.cell t1 HVAL.out;have f5:=hh5.1.frozen t1;(have hw9:=Lb.turn (l:=2) (g:=bw) (t:=52) (by first | with_reducible exact (LW5.out.alloc _).drew | with_reducible exact LW5.out.alloc _ | with_reducible exact LW5.out.drew.alloc _) ht5 (by show ¬ (2 = _);omega);have cw90:=hw9.1.cell 0 rfl;have cw91:=hw9.1.cell 1 rfl))
            refine hK.out _ _ ⟨cw90,cw91⟩ (fun hHeld=>?_)
            clear hK K
            (try simp only [Act.put,List.setIfInBounds_toArray,List.set_cons_zero,List.set_cons_succ])
            refine wpAnyH_take (i:=11) (v:=?_) rfl (by kernel_rfl) (by kernel_rfl) (by kernel_rfl) (fun _ _ _ h=>h) (Or.inl ⟨by rfl, ?_⟩) (by assumption) ?_
            rotate_left
            (focus (intro w hSw;(try dsimp only at hSw);go_simp;(try with_reducible rfl)))
            (try simp only [Act.put,List.setIfInBounds_toArray,List.set_cons_zero,List.set_cons_succ])
            refine wpAnyH_ready (rs:=[12]) (by kernel_rfl) (by simp) ?_
            refine AllReadyH.cons (by rw [List.getElem?_toArray];exact rfl) (fun K hK=>?_) AllReadyH.nil
            (have tok12 : True:=trivial;clear tok12;go_simp)
            refine hK.out _ _ ⟨(World.cell?_setCell_far _ _ _ _ hg2).trans cw90,(World.cell?_setCell_far _ _ _ _ hg2).trans cw91⟩ (fun hHeld=>?_)
            clear hK K
            (try simp only [Act.put,List.setIfInBounds_toArray,List.set_cons_zero,List.set_cons_succ])
            refine wpAnyH_done (by kernel_rfl) ?_ _
            go_wp2_with fail
            go_roundg (gk - 1)
            case measure=>have:=HK.out;omega
            case rel =>
             rw [HLNE.out] at hr5
             (first | (have hpush:=Wym.push (x:=(z1,z2)) ((HM5.out.alloc _).drew) ht1 ht5 hr5) | (have hpush:=Wym.push (x:=(z1,z2)) (HM5.out.alloc _) ht1 ht5 hr5) | (have hpush:=Wym.push (x:=(z1,z2)) (HM5.out.drew.alloc _) ht1 ht5 hr5))
             rw [← HLNE.out] at hpush
             have HPU:=Lib.hid hpush
             have HL2 : Hid ((put W1 t1 (z1,z2)).length = is.length + 1):=Lib.hid (by rw [put_length];exact HLN1.out)
             have HB2 : Hid (∀ k x,x ∈ (put W1 t1 (z1,z2)).getD k [] → InB (t + 1) x):=Lib.hid (fun k x hx=>by
              rcases put_mem ht1 hx with rfl | hx
              ·exact HIN.out
              ·exact HBD1.out k x hx)
             have HW2 : Hid (∀ k,((put W1 t1 (z1,z2)).getD k []).length ≤ 2 * (t + 1) + 1):=Lib.hid (fun k=>put_len ht1 (HLW1.out k))
             exact ⟨t + 1,m2,_,_,put W1 t1 (z1,z2),by have:=HK.out;omega,by (have e9:=HTT.out;subst e9;first | rfl | go_num),rfl,HPU,HL2,HB2,HW2,HMX,Lib.hid (by rw [HTT.out];exact HG2.out)⟩
     ·have hr : (0,2) = R:=by rw [← HVG3.out,dGo_bad2 HH.out (fun hh=>hc (by rw [← HT.out] at hh;exact hh))]
      subst hr
      by_cases h1 : off ≤ x1
      ·have h2 : x2 < ak:=by omega
       clear hc
       go_wp2_with fail
       go_ret2
       exact ⟨rfl,by (repeat' first|(with_reducible first|exact blR _ _|assumption|refine blD ?_|refine blN ?_ _)|((with_reducible first|refine blA ?_ ?_ _|refine blS ?_ ?_ _|refine blT (by assumption) ?_ ?_);focus (go_size;done)))⟩
      ·have h2 : x1 < off:=by omega
       clear hc h1
       go_wp2_with fail
       go_ret2
       exact ⟨rfl,by (repeat' first|(with_reducible first|exact blR _ _|assumption|refine blD ?_|refine blN ?_ _)|((with_reducible first|refine blA ?_ ?_ _|refine blS ?_ ?_ _|refine blT (by assumption) ?_ ?_);focus (go_size;done)))⟩
  ·have tokz : (0 : Int) = 0:=rfl
   clear tokz
   obtain rfl : t = is.length:=by omega
   have hvg : (if alikeB (W.getD is.length []) = true ∧ (W.getD is.length []).head? = some (1,1) then (max m 1,0) else (0,2)) = R:=by
    have:=HVG.out
    rw [pairs_end] at this
    exact this
   have HV2:=Lib.hid hvg
   have htW : is.length < W.length:=by have:=HLN.out;omega
   have ct:=HMM.out.cell htW
   have HAL:=Lib.hid (fun n=>alike_q _ _ (wr.drewN n) ((HMM.out.drewN n).wyl htW))
   have HYL:=Lib.hid (HMM.out.wyl htW)
   have hbl:=HMM.out.below
   have hle:=hbl.size
   have lg:=HMM.out.lw.1.lt
   have cF:=HMM.out.lf.1.cell 1 rfl
   have lF:=HMM.out.lf.1.lt
   obtain ⟨A0,C0,hv0,hl0,_⟩:=HC.out
   obtain ⟨rfl,-,rfl⟩ : A = A0 ∧ is.length = is.length ∧ C = C0:=by injection hv0 with e1 e2 e3;exact ⟨e1,rfl,e3⟩
   clear hvg hv0 hl0 hlt HVG
   obtain ⟨u,hu⟩ : ∃ u,u = vs.getD is.length undef:=⟨_,rfl⟩
   rw [← hu] at ct HAL HYL
   clear hu
   obtain ⟨l,hl⟩ : ∃ l,l = W.getD is.length []:=⟨_,rfl⟩
   rw [← hl] at HV2 HAL HYL
   clear hl
   cases hz : alikeB l with
   | false =>
    have hr:=HV2.out
    rw [hz,if_neg (fun h=>Bool.noConfusion h.1)] at hr
    subst hr
    rw [hz] at HAL
    clear HV2 hz
    go_wp2_with fail
    go_quiet ((go_at_call 24;(first | exact Calls.quiet_of (HAL.out _) | exact quiet_add (HAL.out _))))
    go_wp2_with fail
    go_ret2
    exact ⟨rfl,below_drewN (by (repeat' first|(with_reducible first|exact blR _ _|assumption|refine blD ?_|refine blN ?_ _)|((with_reducible first|refine blA ?_ ?_ _|refine blS ?_ ?_ _|refine blT (by assumption) ?_ ?_);focus (go_size;done)))) _⟩
   | true =>
    rw [hz] at HAL
    obtain ⟨hpos,_⟩:=alike_iff.1 hz
    have HH:=Lib.hid (head_wg hpos)
    obtain ⟨A2,C2,hu2,hl2m⟩ : ∃ A2 C2,u = .slice A2 l.length C2 ∧ l.length ≤ maxLen:=by
     obtain ⟨A2,C2,q1,q2,_⟩:=HYL.out
     exact ⟨A2,C2,q1,q2⟩
    subst hu2
    obtain ⟨b2,p2,rfl,ay⟩:=HYL.out.at hpos
    rw [Nat.zero_mul,Nat.add_zero] at ay
    obtain ⟨x,hx⟩ : ∃ x,x = wg l 0:=⟨_,rfl⟩
    rw [← hx] at HH ay
    obtain ⟨x1,x2⟩:=x
    obtain ⟨y1,y2⟩:=ay.way
    dsimp only at y1 y2
    have l2:=cell_lt2 y1
    obtain ⟨lt,hlt2⟩ : ∃ lt,lt = l.length:=⟨_,rfl⟩
    rw [← hlt2] at hpos HAL ct hl2m
    have hposc : (0 : Int) < (lt : Int):=by omega
    have hr:=HV2.out
    rw [hz,HH.out] at hr
    have HR:=Lib.hid hr
    unfold maxLen at hl2m
    clear HV2 hz hx ay hlt2 HYL hr HH
    cases hq : (x1 == 1 && x2 == 1) with
    | true =>
     have r1 : ∀ W,(binOp .neq 52 (.agg #[.int .i64 x1,.int .i64 x2]) (.agg #[.int .i64 1,.int .i64 1])).run Tryd.prog W = .ok (.bool false) W:=fun W=>by rw [neq_way,hq];rfl
     obtain ⟨q1,q2⟩:=Bool.and_eq_true_iff.1 hq
     have q1:=beq_iff_eq.1 q1
     have q2:=beq_iff_eq.1 q2
     have hr:=HR.out
     rw [if_pos ⟨rfl,by rw [q1,q2]⟩] at hr
     subst hr
     clear HR hq q1 q2
     have hmb:=HMB.out
     rcases Int.lt_or_le m 1 with hmx | hmx
     ·go_wp2_with fail
      go_quiet ((go_at_call 24;(first | exact Calls.quiet_of (HAL.out _) | exact quiet_add (HAL.out _))))
      go_wp2_with fail
      go_ret2
      exact ⟨by rw [Int.max_eq_right (by omega)];rfl,below_drewN (by (repeat' first|(with_reducible first|exact blR _ _|assumption|refine blD ?_|refine blN ?_ _)|((with_reducible first|refine blA ?_ ?_ _|refine blS ?_ ?_ _|refine blT (by assumption) ?_ ?_);focus (go_size;done)))) _⟩
     ·go_wp2_with fail
      go_quiet ((go_at_call 24;(first | exact Calls.quiet_of (HAL.out _) | exact quiet_add (HAL.out _))))
      go_wp2_with fail
      go_ret2
      exact ⟨by rw [Int.max_eq_left (by omega)];rfl,below_drewN (by (repeat' first|(with_reducible first|exact blR _ _|assumption|refine blD ?_|refine blN ?_ _)|((with_reducible first|refine blA ?_ ?_ _|refine blS ?_ ?_ _|refine blT (by assumption) ?_ ?_);focus (go_size;done)))) _⟩
    | false =>
     have r1 : ∀ W,(binOp .neq 52 (.agg #[.int .i64 x1,.int .i64 x2]) (.agg #[.int .i64 1,.int .i64 1])).run Tryd.prog W = .ok (.bool true) W:=fun W=>by rw [neq_way,hq];rfl
     have hr:=HR.out
     rw [if_neg (fun h=>by
      have h2:=h.2
      injection h2 with h2
      injection h2 with q1 q2
      subst q1 q2
      revert hq
      decide)] at hr
     subst hr
     clear HR hq
     go_wp2_with fail
     go_quiet ((go_at_call 24;(first | exact Calls.quiet_of (HAL.out _) | exact quiet_add (HAL.out _))))
     go_wp2_with fail
     go_ret2
     exact ⟨rfl,below_drewN (by (repeat' first|(with_reducible first|exact blR _ _|assumption|refine blD ?_|refine blN ?_ _)|((with_reducible first|refine blA ?_ ?_ _|refine blS ?_ ?_ _|refine blT (by assumption) ?_ ?_);focus (go_size;done)))) _⟩
end Go.Proofs.YtnhmplfonkjfoaaDoor



namespace Go.Proofs.YtnhmplfonkjfoaaDoor
open Go.RowKit

set_option maxRecDepth 100000
set_option maxHeartbeats 20000000 in
theorem doc_in_false (is : List InsD) (v : Value) (w : World) (h : Cod w v is) (hl : is.length ≤ 600) : Calls Tryd.prog 13 #[v,.bool false] w (DocPost is false w):=by
 obtain ⟨R,hR⟩ : ∃ R,R = docS (pairs is) (fB false):=⟨_,rfl⟩
 have HV : Hid (dGo is.length (fB false) (pairs is) 0 ([(0,fB false)] :: List.replicate is.length []) 0 = R):=Lib.hid (by
  rw [hR];unfold docS;rw [if_neg (by rw [pairs_length];omega),pairs_length])
 unfold DocPost
 rw [← hR]
 clear hR
 have HC:=Lib.hid h
 obtain ⟨A,C,rfl,h2,h3⟩:=h
 have hl2 : ((is.length : Int)) ≤ 600:=by omega
 clear h3 h2
 have tokd : fB false = 0:=rfl
 clear tokd
 have esz : (w.alloc (.cells #[.int .i64 0,.int .i64 0] 52)).heap.size = w.heap.size + 1:=World.size_alloc _ _
 go_enter Tryd.func13,Tryd.ntmps13
 go_wp2_with (at_make;refine wpList_makeL rfl _ _ 53 54 rfl (.slice none 0 0) rfl 24 Tryd.underlying53 (by kernel_rfl) (relabel (fun _=>0) w.heap.size 2) 1 (is.length + 1) rfl rfl (by omega) (by unfold maxLen;omega) ?_;intro w1 lw t1;have lf:=(Lb.new (w:=w) (fun _=>0) 2 52 [.int .i64 0,.int .i64 0] (Nat.le_refl _)).turn t1 (fun h=>h);rw [esz] at lw lf t1;have cf0:=lf.1.cell 0 rfl;have cf1:=lf.1.cell 1 rfl;have cg0:=lw.1.cell 0 rfl;have fg0:=lw.1.frozen 0;have ltg:=lw.1.lt)
 generalize relabel (relabel (fun _=>0) w.heap.size 2) (w.heap.size + 1) 1 = oq at lw lf t1
 have hM0 : Wym w (w.heap.size + 1) w.heap.size 0 oq w1 (List.replicate (is.length + 1) (.slice none 0 0)) (List.replicate (is.length + 1) []):=by
  refine ⟨lw,lf,fun n hn=>?_,by simp, ?_⟩
  ·rw [List.length_replicate] at hn
   rw [List.getD_eq_getElem?_getD,List.getElem?_replicate,if_pos hn,List.getD_eq_getElem?_getD,List.getElem?_replicate,if_pos hn]
   exact Ro.nil _ _ _ _ _
  ·have t0 : Turn (fun l=>l ≠ 0) w (fun _=>0) (w.alloc (.cells #[.int .i64 0,.int .i64 0] 52)) (relabel (fun _=>0) w.heap.size 2):=((Turn.refl _ _ _).alloc _).relabel (Nat.le_refl _) 2
   exact t0.trans (t1.mono fun _ h=>h.elim)
 have hM1:=hM0.push (k:=0) (x:=(0,0)) (by simp) (((Turn.refl (· = 3 + 0) w1 _).alloc (.cells #[.int .i64 0,.int .i64 0] 52)).relabel (Nat.le_refl _) 3) (Ro.of_block (n:=1) (cap:=1) (k:=2) (Lb.new (w:=w1) _ 3 52 [.int .i64 0,.int .i64 0] (Nat.le_refl _)) (Nat.le_refl _) (by decide) rfl rfl)
 rw [World.setCell_alloc_past _ _ _ _ ltg] at hM1
 have HM1:=Lib.hid hM1
 have HV0:=HV
 clear hM0 hM1 lw lf t1 cf0 cf1 cg0 fg0 esz
 obtain ⟨g,hg⟩ : ∃ g,g = w.heap.size + 1:=⟨_,rfl⟩
 have hgF : w.heap.size < g:=by omega
 rw [← hg] at HM1 ltg
 rw [← hg]
 clear hg
 go_loopg [8,9] is.length (fun k s8 s9 wr=>∃ (t : Nat) (m : Int) (o : Nat → Nat) (vs : List Value) (W : Wy),k + t = is.length ∧ s9 = .int .i64 t ∧ s8 = .int .i64 m ∧ Hid (Wym w g w.heap.size 0 o wr vs W) ∧ Hid (W.length = is.length + 1) ∧ Hid (∀ k x,x ∈ W.getD k [] → InB t x) ∧ Hid (∀ k,(W.getD k []).length ≤ 2 * t + 1) ∧ Hid (0 ≤ m ∧ m ≤ 600) ∧ Hid (dGo is.length 0 ((pairs is).drop t) t W m = R))
 case atStart =>
  have ep : put (List.replicate (is.length + 1) []) 0 (0,0) = [(0,0)] :: List.replicate is.length []:=rfl
  rw [ep] at HM1
  have e2 : ∀ k,(([(0,0)] : List Way) :: List.replicate is.length []).getD k [] = if k = 0 then [(0,0)] else []:=fun k=>by
   cases k with
   | zero=>rfl
   | succ k=>rw [List.getD_eq_getElem?_getD,List.getElem?_cons_succ,List.getElem?_replicate];split <;> rfl
  refine ⟨0,0,_,_,[(0,0)] :: List.replicate is.length [],by omega,rfl,rfl,HM1,Lib.hid (by simp),Lib.hid (fun k x hx=>?_),Lib.hid (fun k=>?_),Lib.hid ⟨by omega,by omega⟩,HV0⟩
  ·rw [e2] at hx
   split at hx
   ·obtain rfl:=List.mem_singleton.1 hx
    exact ⟨by simp,by simp,by simp,by simp⟩
   ·cases hx
  ·rw [e2];split <;> simp
 case round =>
  obtain ⟨t,m,o,vs,W,hk,rfl,rfl,HMM,HLN,HBD,HLW,HMB,HVG⟩:=hrel
  have HK:=Lib.hid hk
  have htn : t ≤ is.length:=by omega
  clear hk HM1 HV0
  by_cases hlt : t < is.length
  ·obtain ⟨b1,p1,rfl,hat⟩:=(HC.out.below HMM.out.below).at hlt
   obtain ⟨I,hI⟩ : ∃ I,I = ig is t:=⟨_,rfl⟩
   have HD:=pairs_drop hlt
   rw [← hI] at hat HD
   obtain ⟨op,a,tx,ng,hi,lo,sc,dy⟩:=I
   have HVG2:=HVG.out
   rw [HD] at HVG2
   have HVG3:=Lib.hid HVG2
   clear hI HD HVG2 HVG
   have HAT:=Lib.hid hat
   obtain ⟨a0,a1,a2,a3,a4,a5,a6,a7⟩:=hat.ins
   dsimp only at a0 a1 a2 a3 a4 a5 a6 a7
   clear hat
   have HE:=Lib.hid (takes_any op a tx ng hi lo sc dy)
   go_wp2_with fail
   refine (HE.out _).mono ?_
   rintro _ w2 ⟨rfl,hb2⟩
   have hs2:=hb2.size
   have HMK:=Lib.hid (HMM.out.kept hb2)
   have HAT2:=HAT.out.below hb2
   obtain ⟨e0,e1,-⟩:=HAT2.ins
   dsimp only at e0 e1
   have HA2:=Lib.hid HAT2
   clear HAT2 HAT a0 a1 a2 a3 a4 a5 a6 a7 HE HMM hb2
   generalize relabel o wr.heap.size 2 = o2 at HMK
   clear hs2
   obtain ⟨T,hT⟩ : ∃ T,T = tk op a:=⟨_,rfl⟩
   have HTB:=tk_TB op a
   rw [← hT] at HTB
   rw [← hT]
   obtain ⟨off,on,tu,ak,ok⟩:=T
   have HT:=Lib.hid hT
   have HTB2:=Lib.hid HTB
   dsimp only
   clear hT HTB
   have htW : t < W.length:=by have:=HLN.out;omega
   have ct:=HMK.out.cell htW
   have HAL:=Lib.hid (alike_any _ _ _ (HMK.out.wyl htW))
   have HYL:=Lib.hid (HMK.out.wyl htW)
   have hbl:=HMK.out.below
   have hle:=hbl.size
   obtain ⟨u,hu⟩ : ∃ u,u = vs.getD t undef:=⟨_,rfl⟩
   rw [← hu] at ct HAL HYL
   have HU:=Lib.hid hu
   clear hu
   cases ok with
   | false =>
    have hr : (0,2) = R:=by
     rw [← HVG3.out,dGo_no (by rw [← HT.out])]
    subst hr
    go_wp2_with fail
    go_ret2
    exact ⟨rfl,by (repeat' first|(with_reducible first|exact blR _ _|assumption|refine blD ?_|refine blN ?_ _)|((with_reducible first|refine blA ?_ ?_ _|refine blS ?_ ?_ _|refine blT (by assumption) ?_ ?_);focus (go_size;done)))⟩
   | true =>
    cases hz : alikeB (W.getD t []) with
    | false =>
     have hr : (0,2) = R:=by rw [← HVG3.out,dGo_off hz]
     subst hr
     rw [hz] at HAL
     clear hz
     go_wp2_with fail
     refine HAL.out.mono ?_
     rintro _ w3 ⟨rfl,hb3⟩
     have hs3:=hb3.size
     go_wp2_with fail
     go_ret2
     exact ⟨rfl,by (repeat' first|(with_reducible first|exact blR _ _|assumption|refine blD ?_|refine blN ?_ _)|((with_reducible first|refine blA ?_ ?_ _|refine blS ?_ ?_ _|refine blT (by assumption) ?_ ?_);focus (go_size;done)))⟩
    | true =>
     rw [hz] at HAL
     have HZ:=Lib.hid hz
     obtain ⟨hpos,_⟩:=alike_iff.1 hz
     have HH:=Lib.hid (head_wg hpos)
     obtain ⟨A2,C2,hu2,hl2m⟩ : ∃ A2 C2,u = .slice A2 (W.getD t []).length C2 ∧ (W.getD t []).length ≤ maxLen:=by
      obtain ⟨A2,C2,q1,q2,_⟩:=HYL.out
      exact ⟨A2,C2,q1,q2⟩
     subst hu2
     obtain ⟨b2,p2,rfl,ay⟩:=HYL.out.at hpos
     rw [Nat.zero_mul,Nat.add_zero] at ay
     have HAY:=Lib.hid ay
     have HXB:=HBD.out t (wg (W.getD t []) 0) (by
      have:=HH.out
      exact List.mem_of_mem_head? this)
     obtain ⟨x,hx⟩ : ∃ x,x = wg (W.getD t []) 0:=⟨_,rfl⟩
     rw [← hx] at HH HAY HXB
     clear hx ay hz
     obtain ⟨x1,x2⟩:=x
     obtain ⟨lt,hlt2⟩ : ∃ lt,lt = (W.getD t []).length:=⟨_,rfl⟩
     rw [← hlt2] at hpos HAL ct hl2m HU
     clear hlt2 HYL
     unfold maxLen at hl2m
     go_wp2_with fail
     refine HAL.out.mono ?_
     rintro _ w3 ⟨rfl,hb3⟩
     have hs3:=hb3.size
     have HM3:=Lib.hid (HMK.out.kept hb3)
     have hAY:=HAY.out.below hb3
     obtain ⟨y1,y2⟩:=hAY.way
     obtain ⟨e0',e1',-⟩:=(HA2.out.below hb3).ins
     dsimp only at e0' e1' y1 y2
     have HAX:=Lib.hid (HA2.out.below hb3)
     have ct3:=HM3.out.cell htW
     rw [← HU.out] at ct3
     have hbl3:=HM3.out.below
     clear e0 e1 hb3 HAL ct HMK hbl hAY HAY HA2 hle hs3
     have hle:=hbl3.size
     generalize relabel o2 w2.heap.size 2 = o3 at HM3
     by_cases hc : off ≤ x1 ∧ ak ≤ x2
     ·obtain ⟨h1,h2⟩:=hc
      obtain ⟨f1,f2,f3,f4,f5,f6,f7,_⟩:=HTB2.out rfl
      obtain ⟨c1,c2,c3,c4⟩:=id HXB
      dsimp only at f1 f2 f3 f4 f5 f6 f7 c1 c2 c3 c4
      have l1 : b1 < w3.heap.size:=cell_lt2 e0'
      have l2 : b2 < w3.heap.size:=cell_lt2 y1
      have l3 : g < w3.heap.size:=cell_lt2 ct3
      have HBW : Hid (b1 < w.heap.size):=Lib.hid (by
       obtain ⟨b9,p9,q9,a9⟩:=HC.out.at hlt
       injection q9 with q9
       injection q9 with q8 q9
       subst q8
       exact cell_lt2 (a9.ins).1)
      have haf : Hid (after op a (x1,x2) = (x1 - off + on,x2 + tu)):=Lib.hid (by unfold after;rw [← HT.out])
      have hcc : Hid ((tk op a).2.2.2.2 = true ∧ (tk op a).1 ≤ (x1,x2).1 ∧ (tk op a).2.2.2.1 ≤ (x1,x2).2):=Lib.hid (by rw [← HT.out];exact ⟨rfl,h1,h2⟩)
      have HIN:=Lib.hid (InB.next HXB hcc.out.1 hcc.out.2.1)
      rw [haf.out] at HIN
      go_upto_region 15 with fail
      go_cut [8] (fun s8 wx=>s8 = .int .i64 (max m x1) ∧ wx = w3)
      case first =>
       rcases Int.lt_or_le m x1 with hmx | hmx
       ·have e : max m x1 = x1:=by omega
        go_wp2_with fail
        go_meet
        case rel=>exact ⟨by rw [e],rfl⟩
       ·have e : max m x1 = m:=by omega
        go_wp2_with fail
        go_meet
        case rel=>exact ⟨by rw [e],rfl⟩
      case rest =>
       obtain ⟨rfl,rfl⟩:=hcut
       obtain ⟨w3,rfl⟩ : ∃ w3 : World,w3 = wc:=⟨_,rfl⟩
       have HMX : Hid (0 ≤ max m x1 ∧ max m x1 ≤ 600):=Lib.hid (by have:=HMB.out;omega)
       obtain ⟨m2,hm2⟩ : ∃ m2,m2 = max m x1:=⟨_,rfl⟩
       rw [← hm2] at HMX
       have HM2:=Lib.hid hm2
       rw [← hm2]
       clear hm2
       go_upto_region 16 with fail
       go_cut [15] (fun s15 wx=>∃ (o4 : Nat → Nat) (bw : Nat),s15 = .pointer (some ⟨bw,0,none⟩) ∧ Hid (Wym w g w.heap.size 0 o4 wx vs W) ∧ Hid (Lb wx o4 2 bw 52 [.int .i64 (x1 - off + on),.int .i64 (x2 + tu)]) ∧ Hid (At wx b1 (p1 + t * 8) (InsD.cs ⟨op,a,tx,ng,hi,lo,sc,dy⟩)))
       case first =>
        have hw1 : IntKind.i64.wrap (x1 - off) = x1 - off:=by rw [IntKind.wrap_i64];omega
        have hw2 : IntKind.i64.wrap (x1 - off + on) = x1 - off + on:=by rw [IntKind.wrap_i64];omega
        have hw3 : IntKind.i64.wrap (x2 + tu) = x2 + tu:=by rw [IntKind.wrap_i64];omega
        go_region_held3 (fun w'=>w'.cell? ⟨g,t,none⟩ = some (.slice (some ⟨b2,p2,none⟩) lt C2) ∧ w'.cell? ⟨b2,p2,none⟩ = some (.int .i64 x1) ∧ w'.cell? ⟨b2,p2 + 1,none⟩ = some (.int .i64 x2)) (first | (first | (go_keep;done) | (simp [go_sem];done) | ((try dsimp only);(repeat' apply And.intro) <;> (first | (with_reducible assumption) | ((rw [World.cell?_alloc_lt _ _ _ (by show _ < _;omega)]);go_split_ands;(first | with_reducible assumption | (refine (World.cell?_alloc_lt _ _ _ (by show _ < _;omega)).symm.trans ?_;with_reducible assumption))) | ((rw [World.cell?_setCell_other _ _ _ _ (by intro e;injection e;omega)]);with_reducible assumption) | (go_keep;done) | (simp [go_sem];done) | (simp (disch:=go_size) [*,World.cell?_alloc_some,World.cell?_setCell_far];done))))) (fail)
        go_wp2_with fail
        go_meet
        case rel =>
         refine ⟨relabel o3 w3.heap.size 2,w3.heap.size,rfl, ?_, ?_, ?_⟩
         ·exact Lib.hid ((HM3.out.kept (Below.alloc (Below.refl _ _) (Nat.le_refl _) (.cells #[.int .i64 (x1 - off + on),.int .i64 (x2 + tu)] 52))).drew)
         ·exact Lib.hid ((Lb.new (w:=w3) o3 2 52 [.int .i64 (x1 - off + on),.int .i64 (x2 + tu)] (Nat.le_refl _)).drew)
         ·exact Lib.hid (HAX.out.below (Below.drew (Below.alloc (Below.refl w3.heap.size _) (Nat.le_refl _) (.cells #[.int .i64 (x1 - off + on),.int .i64 (x2 + tu)] 52))))
       case rest =>
        obtain ⟨o4,bw,rfl,HM4,LW4,HA4⟩:=hcut
        obtain ⟨w4,rfl⟩ : ∃ w4 : World,w4 = wc:=⟨_,rfl⟩
        clear y1 y2 e0' e1' ct3 hbl3 hle l1 l2 l3 HAX HM3 h1 h2 f1 f2 f3 f4 f5 f6 f7 c1 c2 c3 c4 HXB HTB2
        obtain ⟨z1,hz1⟩ : ∃ z1,z1 = x1 - off + on:=⟨_,rfl⟩
        obtain ⟨z2,hz2⟩ : ∃ z2,z2 = x2 + tu:=⟨_,rfl⟩
        rw [← hz1,← hz2] at LW4 haf HIN
        clear hz1 hz2
        obtain ⟨e0,e1,-⟩:=HA4.out.ins
        dsimp only at e0 e1
        have l1 : b1 < w4.heap.size:=cell_lt2 e0
        have hbl:=HM4.out.below
        have hle:=hbl.size
        have l3 : g < w4.heap.size:=HM4.out.lw.1.lt
        go_upto_region 17 with fail
        go_cut [123] (fun s123 wx=>s123 = .bool (isJ op) ∧ wx = w4)
        case first =>
         by_cases q1 : op = 101
         ·subst q1
          go_wp2_with fail
          go_meet
          case rel=>exact ⟨rfl,rfl⟩
         ·by_cases q2 : op = 102
          ·subst q2
           go_wp2_with fail
           go_meet
           case rel=>exact ⟨rfl,rfl⟩
          ·have q3 : (op == 101) = false:=by rw [beq_eq_false_iff_ne];exact q1
           have q4 : (op == 102) = false:=by rw [beq_eq_false_iff_ne];exact q2
           have q5 : isJ op = false:=by unfold isJ;rw [decide_eq_false_iff_not];omega
           go_wp2_with fail
           go_meet
           case rel=>exact ⟨by rw [q5],rfl⟩
        case rest =>
         obtain ⟨rfl,rfl⟩:=hcut
         obtain ⟨w4,rfl⟩ : ∃ w4 : World,w4 = wc:=⟨_,rfl⟩
         go_upto_if 123 with fail
         go_cut [15] (fun s15 wx=>∃ (o5 : Nat → Nat) (vs1 : List Value) (W1 : Wy),s15 = .pointer (some ⟨bw,0,none⟩) ∧ Hid (Wym w g w.heap.size 0 o5 wx vs1 W1) ∧ Hid (W1 = if isJ op = true then put W a.toNat (z1,z2) else W) ∧ Hid (isJ op = true → (t : Int) < a ∧ a ≤ is.length) ∧ Hid (Lb wx o5 2 bw 52 [.int .i64 z1,.int .i64 z2]) ∧ Hid (At wx b1 (p1 + t * 8) (InsD.cs ⟨op,a,tx,ng,hi,lo,sc,dy⟩)))
         case first =>
          cases hj : isJ op with
          | false =>
           go_wp2_with fail
           go_meet
           case rel=>exact ⟨o4,vs,W,rfl,HM4,Lib.hid (by rw [hj];rfl),Lib.hid (fun h=>absurd (hj.symm.trans h) (by decide)),LW4,HA4⟩
          | true =>
           by_cases hb : (t : Int) < a ∧ a ≤ is.length
           ·have tokg : (0 : Int) = 0:=rfl
            clear tokg
            obtain ⟨an,ha⟩ : ∃ an : Nat,a = (an : Int):=⟨a.toNat,by omega⟩
            subst ha
            have HB:=Lib.hid hb
            obtain ⟨hb1,hb2⟩:=hb
            have hta : t < an:=by omega
            have han : an ≤ is.length:=by omega
            have ht1 : an < W.length:=by have:=HLN.out;omega
            have hd0 : (0 : Int) ≤ (an : Int):=by omega
            have hd1 : (an : Int) < (is.length : Int) + 1:=by omega
            have hat : Int.toNat (an : Int) = an:=Int.toNat_natCast an
            have c9:=(HM4.out).cell ht1
            have hrow:=(HM4.out).rows an ht1
            have hval:=(HM4.out).val ht1
            have hlen : ((W).getD an []).length ≤ 2000:=by have:=HLW.out an;omega
            obtain ⟨u2,hu2⟩ : ∃ u2,u2 = (vs).getD an undef:=⟨_,rfl⟩
            rw [← hu2] at c9 hrow hval
            obtain ⟨ln,hln⟩ : ∃ ln,ln = ((W).getD an []).length:=⟨_,rfl⟩
            rw [← hln] at hrow hlen
            have HLNE:=Lib.hid hln
            have HVAL:=Lib.hid hval
            have cw0:=(LW4.out).1.cell 0 rfl
            have cw1:=(LW4.out).1.cell 1 rfl
            have lw2:=(LW4.out).1.lt
            clear hu2 hln hval
            have hno : ¬ (o4 b1 = 3 + an):=by have:=HM4.out.turn.num b1 HBW.out;omega
            have hg1 : g ≠ b1:=by
             rintro rfl
             have q1:=HM4.out.turn.num g HBW.out
             have q2:=HM4.out.lw.2
             omega
            have hg2 : g ≠ bw:=by
             rintro rfl
             have q1:=LW4.out.2
             have q2:=HM4.out.lw.2
             omega
            go_wp2_with fail
            refine wp_region_held_drew (S:=fun w'=>w'.cell? ⟨b1,p1 + t * 8 + 1,none⟩ = some (.int .i64 (an : Int)) ∧ w'.cell? ⟨bw,0,none⟩ = some (.int .i64 z1) ∧ w'.cell? ⟨bw,1,none⟩ = some (.int .i64 z2)) (by kernel_rfl) ⟨e1,cw0,cw1⟩ (fun hHeld=>?_)
            refine wpAnyH_take (i:=0) (v:=?_) rfl (by kernel_rfl) (by kernel_rfl) (by kernel_rfl) (fun _ _ _ h=>h) (Or.inl ⟨by rfl, ?_⟩) (by assumption) ?_
            rotate_left
            (focus (intro w hSw;(try dsimp only at hSw);go_simp;(try with_reducible rfl)))
            (try simp only [Act.put,List.setIfInBounds_toArray,List.set_cons_zero,List.set_cons_succ])
            refine wpAnyH_take (i:=1) (v:=?_) rfl (by kernel_rfl) (by kernel_rfl) (by kernel_rfl) (fun _ _ _ h=>h) (Or.inl ⟨by rfl, ?_⟩) (by assumption) ?_
            rotate_left
            (focus (intro w hSw;(try dsimp only at hSw);go_simp;(try with_reducible rfl)))
            (try simp only [Act.put,List.setIfInBounds_toArray,List.set_cons_zero,List.set_cons_succ])
            refine wpAnyH_take (i:=2) (v:=?_) rfl (by kernel_rfl) (by kernel_rfl) (by kernel_rfl) (fun _ _ _ h=>h) (Or.inl ⟨by rfl, ?_⟩) (by assumption) ?_
            rotate_left
            (focus (intro w hSw;(try dsimp only at hSw);go_simp;(try with_reducible rfl)))
            (try simp only [Act.put,List.setIfInBounds_toArray,List.set_cons_zero,List.set_cons_succ])
            refine wpAnyH_take (i:=3) (v:=?_) rfl (by kernel_rfl) (by kernel_rfl) (by kernel_rfl) (fun _ _ _ h=>h) (Or.inl ⟨by rfl, ?_⟩) (by assumption) ?_
            rotate_left
            (focus (intro w hSw;(try dsimp only at hSw);go_simp;(try with_reducible rfl)))
            (try simp only [Act.put,List.setIfInBounds_toArray,List.set_cons_zero,List.set_cons_succ])
            refine wpAnyH_take (i:=4) (v:=?_) rfl (by kernel_rfl) (by kernel_rfl) (by kernel_rfl) (fun _ _ _ h=>h) (Or.inl ⟨by rfl, ?_⟩) (by assumption) ?_
            rotate_left
            (focus (intro w hSw;(try dsimp only at hSw);go_simp;(try with_reducible rfl)))
            (try simp only [Act.put,List.setIfInBounds_toArray,List.set_cons_zero,List.set_cons_succ])
            refine wpAnyH_take (i:=5) (v:=?_) rfl (by kernel_rfl) (by kernel_rfl) (by kernel_rfl) (fun _ _ _ h=>h) (Or.inl ⟨by rfl, ?_⟩) (by assumption) ?_
            rotate_left
            (focus (intro w hSw;(try dsimp only at hSw);go_simp;(try with_reducible rfl)))
            (try simp only [Act.put,List.setIfInBounds_toArray,List.set_cons_zero,List.set_cons_succ])
            refine wpAnyH_take (i:=6) (v:=?_) rfl (by kernel_rfl) (by kernel_rfl) (by kernel_rfl) (fun _ _ _ h=>h) (Or.inl ⟨by rfl, ?_⟩) (by assumption) ?_
            rotate_left
            (focus (intro w hSw;(try dsimp only at hSw);go_simp;(try with_reducible rfl)))
            (try simp only [Act.put,List.setIfInBounds_toArray,List.set_cons_zero,List.set_cons_succ])
            refine wpAnyH_take (i:=7) (v:=?_) rfl (by kernel_rfl) (by kernel_rfl) (by kernel_rfl) (fun _ _ _ h=>h) (Or.inl ⟨by rfl, ?_⟩) (by assumption) ?_
            rotate_left
            (focus (intro w hSw;(try dsimp only at hSw);go_simp;(try with_reducible rfl)))
            (try simp only [Act.put,List.setIfInBounds_toArray,List.set_cons_zero,List.set_cons_succ])
            refine wpAnyH_take (i:=8) (v:=?_) rfl (by kernel_rfl) (by kernel_rfl) (by kernel_rfl) (fun _ _ _ h=>h) (Or.inl ⟨by rfl, ?_⟩) (by assumption) ?_
            rotate_left
            (focus (intro w hSw;(try dsimp only at hSw);go_simp;(try with_reducible rfl)))
            (try simp only [Act.put,List.setIfInBounds_toArray,List.set_cons_zero,List.set_cons_succ])
            refine wpAnyH_take (i:=9) (v:=?_) rfl (by kernel_rfl) (by kernel_rfl) (by kernel_rfl) (fun _ _ _ h=>h) (Or.inl ⟨by rfl, ?_⟩) (by assumption) ?_
            rotate_left
            (focus (intro w hSw;(try dsimp only at hSw);go_simp;(try with_reducible rfl)))
            (try simp only [Act.put,List.setIfInBounds_toArray,List.set_cons_zero,List.set_cons_succ])
            refine wpAnyH_take (i:=10) (v:=?_) rfl (by kernel_rfl) (by kernel_rfl) (by kernel_rfl) (fun _ _ _ h=>h) (Or.inl ⟨by rfl, ?_⟩) (by assumption) ?_
            rotate_left
            (focus (intro w hSw;(try dsimp only at hSw);go_simp;(try with_reducible rfl)))
            (try simp only [Act.put,List.setIfInBounds_toArray,List.set_cons_zero,List.set_cons_succ])
            refine wpAnyH_take (i:=11) (v:=?_) rfl (by kernel_rfl) (by kernel_rfl) (by kernel_rfl) (fun _ _ _ h=>h) (Or.inl ⟨by rfl, ?_⟩) (by assumption) ?_
            rotate_left
            (focus (intro w hSw;(try dsimp only at hSw);go_simp;(try with_reducible rfl)))
            (try simp only [Act.put,List.setIfInBounds_toArray,List.set_cons_zero,List.set_cons_succ])
            refine wpAnyH_take (i:=12) (v:=?_) rfl (by kernel_rfl) (by kernel_rfl) (by kernel_rfl) (fun _ _ _ h=>h) (Or.inl ⟨by rfl, ?_⟩) (by assumption) ?_
            rotate_left
            (focus (intro w hSw;(try dsimp only at hSw);go_simp;(try with_reducible rfl)))
            (try simp only [Act.put,List.setIfInBounds_toArray,List.set_cons_zero,List.set_cons_succ])
            refine wpAnyH_take (i:=14) (v:=?_) rfl (by kernel_rfl) (by kernel_rfl) (by kernel_rfl) (fun _ _ _ h=>h) (Or.inl ⟨by rfl, ?_⟩) (by assumption) ?_
            rotate_left
            (focus (intro w hSw;(try dsimp only at hSw);go_simp;(try with_reducible rfl)))
            (try simp only [Act.put,List.setIfInBounds_toArray,List.set_cons_zero,List.set_cons_succ])
            refine wpAnyH_ready (rs:=[13,15]) (by kernel_rfl) (by simp) ?_
            refine AllReadyH.cons rfl (fun K hK=>?_) (AllReadyH.cons rfl (fun K hK=>?_) AllReadyH.nil)
            ·(have tok13 : True:=trivial;clear tok13;go_simp)
             refine hK.out _ _ ⟨e1,cw0,cw1⟩ (fun hHeld=>?_)
             clear hK K
             (try simp only [Act.put,List.setIfInBounds_toArray,List.set_cons_zero,List.set_cons_succ])
             refine wpAnyH_ready (rs:=[15]) (by kernel_rfl) (by simp) ?_
             refine AllReadyH.cons (by rw [List.getElem?_toArray];exact rfl) (fun K hK=>?_) AllReadyH.nil
             (have tok15 : True:=trivial;clear tok15;go_simp)
             refine hK.out _ _ ?_ (fun hHeld=>?_)
             (focus (first | (first | (go_keep;done) | (simp [go_sem];done) | ((try dsimp only);(repeat' apply And.intro) <;> (first | (with_reducible assumption) | ((rw [World.cell?_alloc_lt _ _ _ (by show _ < _;omega)]);go_split_ands;(first | with_reducible assumption | (refine (World.cell?_alloc_lt _ _ _ (by show _ < _;omega)).symm.trans ?_;with_reducible assumption))) | ((rw [World.cell?_setCell_other _ _ _ _ (by intro e;injection e;omega)]);with_reducible assumption) | (go_keep;done) | (simp [go_sem];done) | (simp (disch:=go_size) [*,World.cell?_alloc_some,World.cell?_setCell_far];done))))))
             clear hK K
             (try simp only [Act.put,List.setIfInBounds_toArray,List.set_cons_zero,List.set_cons_succ])
             refine wpAnyH_ready (rs:=[16]) (by kernel_rfl) (by simp) ?_
             refine AllReadyH.cons (by rw [List.getElem?_toArray];exact rfl) (fun K hK=>?_) AllReadyH.nil
             (refine step_pushR rfl _ _ 54 52 2 16 (.agg #[.int .i64 0,.int .i64 0]) rfl Tryd.underlying54 info_way rfl (by decide) _ (3 + an) u2 ln (wcs ((W).getD an [])) rfl (by first | with_reducible exact (hrow.alloc _).drew | with_reducible exact hrow.alloc _ | with_reducible exact hrow.drew.alloc _) ⟨_,0,none⟩ 1 1 [.int .i64 z1,.int .i64 z2] rfl rfl (by first | with_reducible exact news_newd _ _ _ _ | with_reducible exact news_new _ _ _ _) (two_cells _ _) (by decide) (by omega) (by unfold maxLen;omega) ?_;intro g5 cap5 w9 hr5 ht5 hlt5;have hh5:=Lb.turn (l:=1) (g:=g) (t:=54) (by first | with_reducible exact ((HM4.out).lw.alloc _).drew | with_reducible exact (HM4.out).lw.alloc _ | with_reducible exact (HM4.out).lw.drew.alloc _) ht5 (by show ¬ (1 = _);omega);have c5:=hh5.1.cell an HVAL.out;have f5:=hh5.1.frozen an;(have AT9:=At.turn (S:=(· = 3 + an)) (by first | with_reducible exact (HA4.out.alloc _).drew | with_reducible exact HA4.out.alloc _ | with_reducible exact HA4.out.drew.alloc _ : At _ b1 (p1 + t * 8) (InsD.cs ⟨op,(an : Int),tx,ng,hi,lo,sc,dy⟩)) ht5 hno;have e91 : w9.cell? ⟨b1,p1 + t * 8 + 1,none⟩ = some (.int .i64 (an : Int)):=AT9.ins.2.1;have hw9:=Lb.turn (l:=2) (g:=bw) (t:=52) (by first | with_reducible exact (LW4.out.alloc _).drew | with_reducible exact LW4.out.alloc _ | with_reducible exact LW4.out.drew.alloc _) ht5 (by show ¬ (2 = _);omega);have cw90:=hw9.1.cell 0 rfl;have cw91:=hw9.1.cell 1 rfl))
             refine hK.out _ _ ⟨e91,cw90,cw91⟩ (fun hHeld=>?_)
             clear hK K
             (try simp only [Act.put,List.setIfInBounds_toArray,List.set_cons_zero,List.set_cons_succ])
             refine wpAnyH_take (i:=17) (v:=?_) rfl (by kernel_rfl) (by kernel_rfl) (by kernel_rfl) (fun _ _ _ h=>h) (Or.inl ⟨by rfl, ?_⟩) (by assumption) ?_
             rotate_left
             (focus (intro w hSw;(try dsimp only at hSw);go_simp;(try with_reducible rfl)))
             (try simp only [Act.put,List.setIfInBounds_toArray,List.set_cons_zero,List.set_cons_succ])
             refine wpAnyH_ready (rs:=[18]) (by kernel_rfl) (by simp) ?_
             refine AllReadyH.cons (by rw [List.getElem?_toArray];exact rfl) (fun K hK=>?_) AllReadyH.nil
             (have tok18 : True:=trivial;clear tok18;go_simp)
             refine hK.out _ _ ⟨(World.cell?_setCell_far _ _ _ _ hg1).trans e91,(World.cell?_setCell_far _ _ _ _ hg2).trans cw90,(World.cell?_setCell_far _ _ _ _ hg2).trans cw91⟩ (fun hHeld=>?_)
             clear hK K
             (try simp only [Act.put,List.setIfInBounds_toArray,List.set_cons_zero,List.set_cons_succ])
             refine wpAnyH_done (by kernel_rfl) ?_ _
             go_wp2_with fail
             go_meet
             case rel =>
              rw [HLNE.out] at hr5
              (first | (have hpush:=Wym.push (x:=(z1,z2)) ((HM4.out.alloc _).drew) ht1 ht5 hr5) | (have hpush:=Wym.push (x:=(z1,z2)) (HM4.out.alloc _) ht1 ht5 hr5) | (have hpush:=Wym.push (x:=(z1,z2)) (HM4.out.drew.alloc _) ht1 ht5 hr5))
              rw [← HLNE.out] at hpush
              have HPU:=Lib.hid hpush
              have HW9:=Lib.hid (hw9.far (p:=⟨g,an,none⟩) (by show _ ≠ 2;rw [hh5.2];decide) (.slice (some ⟨g5,0,none⟩) (ln + 1) cap5))
              have HA9:=Lib.hid (AT9.far (p:=⟨g,an,none⟩) (Ne.symm hg1) (.slice (some ⟨g5,0,none⟩) (ln + 1) cap5))
              have HWE : Hid (put W an (z1,z2) = if isJ op = true then put W ((an : Int).toNat) (z1,z2) else W):=Lib.hid (by rw [hat,hj];rfl)
              have HBE : Hid (isJ op = true → (t : Int) < (an : Int) ∧ (an : Int) ≤ is.length):=Lib.hid (fun _=>⟨hb1,hb2⟩)
              exact ⟨_,_,_,rfl,HPU,HWE,HBE,HW9,HA9⟩
            ·(have tok15 : True:=trivial;clear tok15;go_simp)
             refine hK.out _ _ ?_ (fun hHeld=>?_)
             (focus (first | (first | (go_keep;done) | (simp [go_sem];done) | ((try dsimp only);(repeat' apply And.intro) <;> (first | (with_reducible assumption) | ((rw [World.cell?_alloc_lt _ _ _ (by show _ < _;omega)]);go_split_ands;(first | with_reducible assumption | (refine (World.cell?_alloc_lt _ _ _ (by show _ < _;omega)).symm.trans ?_;with_reducible assumption))) | ((rw [World.cell?_setCell_other _ _ _ _ (by intro e;injection e;omega)]);with_reducible assumption) | (go_keep;done) | (simp [go_sem];done) | (simp (disch:=go_size) [*,World.cell?_alloc_some,World.cell?_setCell_far];done))))))
             clear hK K
             (try simp only [Act.put,List.setIfInBounds_toArray,List.set_cons_zero,List.set_cons_succ])
             refine wpAnyH_ready (rs:=[13]) (by kernel_rfl) (by simp) ?_
             refine AllReadyH.cons (by rw [List.getElem?_toArray];exact rfl) (fun K hK=>?_) AllReadyH.nil
             (have tok13 : True:=trivial;clear tok13;go_simp)
             refine hK.out _ _ ?_ (fun hHeld=>?_)
             (focus (first | (first | (go_keep;done) | (simp [go_sem];done) | ((try dsimp only);(repeat' apply And.intro) <;> (first | (with_reducible assumption) | ((rw [World.cell?_alloc_lt _ _ _ (by show _ < _;omega)]);go_split_ands;(first | with_reducible assumption | (refine (World.cell?_alloc_lt _ _ _ (by show _ < _;omega)).symm.trans ?_;with_reducible assumption))) | ((rw [World.cell?_setCell_other _ _ _ _ (by intro e;injection e;omega)]);with_reducible assumption) | (go_keep;done) | (simp [go_sem];done) | (simp (disch:=go_size) [*,World.cell?_alloc_some,World.cell?_setCell_far];done))))))
             clear hK K
             (try simp only [Act.put,List.setIfInBounds_toArray,List.set_cons_zero,List.set_cons_succ])
             refine wpAnyH_ready (rs:=[16]) (by kernel_rfl) (by simp) ?_
             refine AllReadyH.cons (by rw [List.getElem?_toArray];exact rfl) (fun K hK=>?_) AllReadyH.nil
             (refine step_pushR rfl _ _ 54 52 2 16 (.agg #[.int .i64 0,.int .i64 0]) rfl Tryd.underlying54 info_way rfl (by decide) _ (3 + an) u2 ln (wcs ((W).getD an [])) rfl (by first | with_reducible exact (hrow.alloc _).drew | with_reducible exact hrow.alloc _ | with_reducible exact hrow.drew.alloc _) ⟨_,0,none⟩ 1 1 [.int .i64 z1,.int .i64 z2] rfl rfl (by first | with_reducible exact news_newd _ _ _ _ | with_reducible exact news_new _ _ _ _) (two_cells _ _) (by decide) (by omega) (by unfold maxLen;omega) ?_;intro g5 cap5 w9 hr5 ht5 hlt5;have hh5:=Lb.turn (l:=1) (g:=g) (t:=54) (by first | with_reducible exact ((HM4.out).lw.alloc _).drew | with_reducible exact (HM4.out).lw.alloc _ | with_reducible exact (HM4.out).lw.drew.alloc _) ht5 (by show ¬ (1 = _);omega);have c5:=hh5.1.cell an HVAL.out;have f5:=hh5.1.frozen an;(have AT9:=At.turn (S:=(· = 3 + an)) (by first | with_reducible exact (HA4.out.alloc _).drew | with_reducible exact HA4.out.alloc _ | with_reducible exact HA4.out.drew.alloc _ : At _ b1 (p1 + t * 8) (InsD.cs ⟨op,(an : Int),tx,ng,hi,lo,sc,dy⟩)) ht5 hno;have e91 : w9.cell? ⟨b1,p1 + t * 8 + 1,none⟩ = some (.int .i64 (an : Int)):=AT9.ins.2.1;have hw9:=Lb.turn (l:=2) (g:=bw) (t:=52) (by first | with_reducible exact (LW4.out.alloc _).drew | with_reducible exact LW4.out.alloc _ | with_reducible exact LW4.out.drew.alloc _) ht5 (by show ¬ (2 = _);omega);have cw90:=hw9.1.cell 0 rfl;have cw91:=hw9.1.cell 1 rfl))
             refine hK.out _ _ ⟨e91,cw90,cw91⟩ (fun hHeld=>?_)
             clear hK K
             (try simp only [Act.put,List.setIfInBounds_toArray,List.set_cons_zero,List.set_cons_succ])
             refine wpAnyH_take (i:=17) (v:=?_) rfl (by kernel_rfl) (by kernel_rfl) (by kernel_rfl) (fun _ _ _ h=>h) (Or.inl ⟨by rfl, ?_⟩) (by assumption) ?_
             rotate_left
             (focus (intro w hSw;(try dsimp only at hSw);go_simp;(try with_reducible rfl)))
             (try simp only [Act.put,List.setIfInBounds_toArray,List.set_cons_zero,List.set_cons_succ])
             refine wpAnyH_ready (rs:=[18]) (by kernel_rfl) (by simp) ?_
             refine AllReadyH.cons (by rw [List.getElem?_toArray];exact rfl) (fun K hK=>?_) AllReadyH.nil
             (have tok18 : True:=trivial;clear tok18;go_simp)
             refine hK.out _ _ ⟨(World.cell?_setCell_far _ _ _ _ hg1).trans e91,(World.cell?_setCell_far _ _ _ _ hg2).trans cw90,(World.cell?_setCell_far _ _ _ _ hg2).trans cw91⟩ (fun hHeld=>?_)
             clear hK K
             (try simp only [Act.put,List.setIfInBounds_toArray,List.set_cons_zero,List.set_cons_succ])
             refine wpAnyH_done (by kernel_rfl) ?_ _
             go_wp2_with fail
             go_meet
             case rel =>
              rw [HLNE.out] at hr5
              (first | (have hpush:=Wym.push (x:=(z1,z2)) ((HM4.out.alloc _).drew) ht1 ht5 hr5) | (have hpush:=Wym.push (x:=(z1,z2)) (HM4.out.alloc _) ht1 ht5 hr5) | (have hpush:=Wym.push (x:=(z1,z2)) (HM4.out.drew.alloc _) ht1 ht5 hr5))
              rw [← HLNE.out] at hpush
              have HPU:=Lib.hid hpush
              have HW9:=Lib.hid (hw9.far (p:=⟨g,an,none⟩) (by show _ ≠ 2;rw [hh5.2];decide) (.slice (some ⟨g5,0,none⟩) (ln + 1) cap5))
              have HA9:=Lib.hid (AT9.far (p:=⟨g,an,none⟩) (Ne.symm hg1) (.slice (some ⟨g5,0,none⟩) (ln + 1) cap5))
              have HWE : Hid (put W an (z1,z2) = if isJ op = true then put W ((an : Int).toNat) (z1,z2) else W):=Lib.hid (by rw [hat,hj];rfl)
              have HBE : Hid (isJ op = true → (t : Int) < (an : Int) ∧ (an : Int) ≤ is.length):=Lib.hid (fun _=>⟨hb1,hb2⟩)
              exact ⟨_,_,_,rfl,HPU,HWE,HBE,HW9,HA9⟩
           ·have hr : (0,2) = R:=by rw [← HVG3.out,dGo_out HH.out hj hb]
            subst hr
            have hb2 : a ≤ t ∨ (is.length : Int) < a:=by omega
            clear hb
            rcases hb2 with hb2 | hb2
            ·go_wp2_with fail
             go_ret2
             exact ⟨rfl,by (repeat' first|(with_reducible first|exact blR _ _|assumption|refine blD ?_|refine blN ?_ _)|((with_reducible first|refine blA ?_ ?_ _|refine blS ?_ ?_ _|refine blT (by assumption) ?_ ?_);focus (go_size;done)))⟩
            ·have hb3 : ¬ a ≤ t:=by omega
             go_wp2_with fail
             go_ret2
             exact ⟨rfl,by (repeat' first|(with_reducible first|exact blR _ _|assumption|refine blD ?_|refine blN ?_ _)|((with_reducible first|refine blA ?_ ?_ _|refine blS ?_ ?_ _|refine blT (by assumption) ?_ ?_);focus (go_size;done)))⟩
         case rest =>
          obtain ⟨o5,vs1,W1,rfl,HM5,HW1,HJB,LW5,HA5⟩:=hcut
          obtain ⟨w5,rfl⟩ : ∃ w5 : World,w5 = wc:=⟨_,rfl⟩
          have hgo:=dGo_go (n:=is.length) (f:=0) (m:=m) (r:=(pairs is).drop (t + 1)) HH.out HZ.out hcc.out HJB.out
          rw [HVG3.out] at hgo
          unfold wStep at hgo
          dsimp only at hgo
          rw [haf.out,← HW1.out,← HM2.out] at hgo
          have HGO:=Lib.hid hgo
          have HLN1 : Hid (List.length W1 = is.length + 1):=Lib.hid (by rw [HW1.out];have:=HLN.out;split <;> simp [put_length,this])
          have HBD1 : Hid (∀ k x,x ∈ W1.getD k [] → InB (t + 1) x):=Lib.hid (fun k x hx=>by
           rw [HW1.out] at hx
           split at hx
           ·rename_i hj
            have:=HJB.out hj
            rcases put_mem (by have:=HLN.out;omega) hx with rfl | hx
            ·exact HIN.out
            ·exact (HBD.out k x hx).up
           ·exact (HBD.out k x hx).up)
          have HLW1 : Hid (∀ k,(W1.getD k []).length ≤ 2 * t + 2):=Lib.hid (fun k=>by
           rw [HW1.out]
           split
           ·rename_i hj
            have:=HJB.out hj
            exact put_len (by have:=HLN.out;omega) (HLW.out k)
           ·have:=HLW.out k;omega)
          obtain ⟨e0,e1,-⟩:=HA5.out.ins
          dsimp only at e0 e1
          have l1 : b1 < w5.heap.size:=cell_lt2 e0
          have hbl:=HM5.out.below
          have hle:=hbl.size
          have l3 : g < w5.heap.size:=HM5.out.lw.1.lt
          clear hgo HVG3 HH HZ hcc haf HW1 HJB HM2 HM4 LW4 HA4 HBD HLW HLN HT HMB
          by_cases q1 : op = 101
          ·have q2 : (op != 101) = false:=by rw [bne_eq_false_iff_eq];exact q1
           have hgo:=HGO.out
           rw [if_pos q1] at hgo
           have HG2:=Lib.hid hgo.symm
           clear hgo HGO q1
           go_wp2_with fail
           go_roundg (gk - 1)
           case measure=>have:=HK.out;omega
           case rel=>exact ⟨t + 1,m2,o5,vs1,W1,by have:=HK.out;omega,by go_num,rfl,HM5,HLN1,HBD1,Lib.hid (fun k=>by have:=HLW1.out k;omega),HMX,HG2⟩
          ·have q2 : (op != 101) = true:=by rw [bne_iff_ne];exact q1
           have hgo:=HGO.out
           rw [if_neg q1] at hgo
           have HG2:=Lib.hid hgo.symm
           clear hgo HGO q1
           obtain ⟨t1,htt⟩ : ∃ t1,t1 = t + 1:=⟨_,rfl⟩
           have ht1 : t1 < W1.length:=by have:=HLN1.out;omega
           have hwt : IntKind.i64.wrap ((t : Int) + 1) = (t1 : Int):=by rw [IntKind.wrap_i64];omega
           have hd0 : (0 : Int) ≤ (t1 : Int):=by omega
           have hd1 : (t1 : Int) < (is.length : Int) + 1:=by omega
           have HTT:=Lib.hid htt
           have tokh : (0 : Int) = 0:=rfl
           clear tokh htt
           have c9:=(HM5.out).cell ht1
           have hrow:=(HM5.out).rows t1 ht1
           have hval:=(HM5.out).val ht1
           have hlen : ((W1).getD t1 []).length ≤ 2000:=by have:=HLW1.out t1;omega
           obtain ⟨u2,hu2⟩ : ∃ u2,u2 = (vs1).getD t1 undef:=⟨_,rfl⟩
           rw [← hu2] at c9 hrow hval
           obtain ⟨ln,hln⟩ : ∃ ln,ln = ((W1).getD t1 []).length:=⟨_,rfl⟩
           rw [← hln] at hrow hlen
           have HLNE:=Lib.hid hln
           have HVAL:=Lib.hid hval
           have cw0:=(LW5.out).1.cell 0 rfl
           have cw1:=(LW5.out).1.cell 1 rfl
           have lw2:=(LW5.out).1.lt
           clear hu2 hln hval
           have hg2 : g ≠ bw:=by
            rintro rfl
            have q1:=LW5.out.2
            have q2:=HM5.out.lw.2
            omega
           go_wp2_with fail
           refine wp_region_held_drew (S:=fun w'=>w'.cell? ⟨bw,0,none⟩ = some (.int .i64 z1) ∧ w'.cell? ⟨bw,1,none⟩ = some (.int .i64 z2)) (by kernel_rfl) ⟨cw0,cw1⟩ (fun hHeld=>?_)
           refine wpAnyH_take (i:=0) (v:=?_) rfl (by kernel_rfl) (by kernel_rfl) (by kernel_rfl) (fun _ _ _ h=>h) (Or.inl ⟨by rfl, ?_⟩) (by assumption) ?_
           rotate_left
           (focus (intro w hSw;(try dsimp only at hSw);go_simp;(try with_reducible rfl)))
           (try simp only [Act.put,List.setIfInBounds_toArray,List.set_cons_zero,List.set_cons_succ])
           refine wpAnyH_take (i:=1) (v:=?_) rfl (by kernel_rfl) (by kernel_rfl) (by kernel_rfl) (fun _ _ _ h=>h) (Or.inl ⟨by rfl, ?_⟩) (by assumption) ?_
           rotate_left
           (focus (intro w hSw;(try dsimp only at hSw);go_simp;(try with_reducible rfl)))
           (try simp only [Act.put,List.setIfInBounds_toArray,List.set_cons_zero,List.set_cons_succ])
           refine wpAnyH_take (i:=2) (v:=?_) rfl (by kernel_rfl) (by kernel_rfl) (by kernel_rfl) (fun _ _ _ h=>h) (Or.inl ⟨by rfl, ?_⟩) (by assumption) ?_
           rotate_left
           (focus (intro w hSw;(try dsimp only at hSw);go_simp;(try with_reducible rfl)))
           (try simp only [Act.put,List.setIfInBounds_toArray,List.set_cons_zero,List.set_cons_succ])
           refine wpAnyH_take (i:=3) (v:=?_) rfl (by kernel_rfl) (by kernel_rfl) (by kernel_rfl) (fun _ _ _ h=>h) (Or.inl ⟨by rfl, ?_⟩) (by assumption) ?_
           rotate_left
           (focus (intro w hSw;(try dsimp only at hSw);go_simp;(try with_reducible rfl)))
           (try simp only [Act.put,List.setIfInBounds_toArray,List.set_cons_zero,List.set_cons_succ])
           refine wpAnyH_take (i:=4) (v:=?_) rfl (by kernel_rfl) (by kernel_rfl) (by kernel_rfl) (fun _ _ _ h=>h) (Or.inl ⟨by rfl, ?_⟩) (by assumption) ?_
           rotate_left
           (focus (intro w hSw;(try dsimp only at hSw);go_simp;(try with_reducible rfl)))
           (try simp only [Act.put,List.setIfInBounds_toArray,List.set_cons_zero,List.set_cons_succ])
           refine wpAnyH_take (i:=5) (v:=?_) rfl (by kernel_rfl) (by kernel_rfl) (by kernel_rfl) (fun _ _ _ h=>h) (Or.inl ⟨by rfl, ?_⟩) (by assumption) ?_
           rotate_left
           (focus (intro w hSw;(try dsimp only at hSw);go_simp;(try with_reducible rfl)))
           (try simp only [Act.put,List.setIfInBounds_toArray,List.set_cons_zero,List.set_cons_succ])
           refine wpAnyH_take (i:=6) (v:=?_) rfl (by kernel_rfl) (by kernel_rfl) (by kernel_rfl) (fun _ _ _ h=>h) (Or.inl ⟨by rfl, ?_⟩) (by assumption) ?_
           rotate_left
           (focus (intro w hSw;(try dsimp only at hSw);go_simp;(try with_reducible rfl)))
           (try simp only [Act.put,List.setIfInBounds_toArray,List.set_cons_zero,List.set_cons_succ])
           refine wpAnyH_take (i:=8) (v:=?_) rfl (by kernel_rfl) (by kernel_rfl) (by kernel_rfl) (fun _ _ _ h=>h) (Or.inl ⟨by rfl, ?_⟩) (by assumption) ?_
           rotate_left
           (focus (intro w hSw;(try dsimp only at hSw);go_simp;(try with_reducible rfl)))
           (try simp only [Act.put,List.setIfInBounds_toArray,List.set_cons_zero,List.set_cons_succ])
           refine wpAnyH_ready (rs:=[7,9]) (by kernel_rfl) (by simp) ?_
           refine AllReadyH.cons rfl (fun K hK=>?_) (AllReadyH.cons rfl (fun K hK=>?_) AllReadyH.nil)
           ·(have tok7 : True:=trivial;clear tok7;go_simp)
            refine hK.out _ _ ⟨cw0,cw1⟩ (fun hHeld=>?_)
            clear hK K
            (try simp only [Act.put,List.setIfInBounds_toArray,List.set_cons_zero,List.set_cons_succ])
            refine wpAnyH_ready (rs:=[9]) (by kernel_rfl) (by simp) ?_
            refine AllReadyH.cons (by rw [List.getElem?_toArray];exact rfl) (fun K hK=>?_) AllReadyH.nil
            (have tok9 : True:=trivial;clear tok9;go_simp)
            refine hK.out _ _ ?_ (fun hHeld=>?_)
            (focus (first | (first | (go_keep;done) | (simp [go_sem];done) | ((try dsimp only);(repeat' apply And.intro) <;> (first | (with_reducible assumption) | ((rw [World.cell?_alloc_lt _ _ _ (by show _ < _;omega)]);go_split_ands;(first | with_reducible assumption | (refine (World.cell?_alloc_lt _ _ _ (by show _ < _;omega)).symm.trans ?_;with_reducible assumption))) | ((rw [World.cell?_setCell_other _ _ _ _ (by intro e;injection e;omega)]);with_reducible assumption) | (go_keep;done) | (simp [go_sem];done) | (simp (disch:=go_size) [*,World.cell?_alloc_some,World.cell?_setCell_far];done))))))
            clear hK K
            (try simp only [Act.put,List.setIfInBounds_toArray,List.set_cons_zero,List.set_cons_succ])
            refine wpAnyH_ready (rs:=[10]) (by kernel_rfl) (by simp) ?_
            refine AllReadyH.cons (by rw [List.getElem?_toArray];exact rfl) (fun K hK=>?_) AllReadyH.nil
            (refine step_pushR rfl _ _ 54 52 2 16 (.agg #[.int .i64 0,.int .i64 0]) rfl Tryd.underlying54 info_way rfl (by decide) _ (3 + t1) u2 ln (wcs ((W1).getD t1 [])) rfl (by first | with_reducible exact (hrow.alloc _).drew | with_reducible exact hrow.alloc _ | with_reducible exact hrow.drew.alloc _) ⟨_,0,none⟩ 1 1 [.int .i64 z1,.int .i64 z2] rfl rfl (by first | with_reducible exact news_newd _ _ _ _ | with_reducible exact news_new _ _ _ _) (two_cells _ _) (by decide) (by omega) (by unfold maxLen;omega) ?_;intro g5 cap5 w9 hr5 ht5 hlt5;have hh5:=Lb.turn (l:=1) (g:=g) (t:=54) (by first | with_reducible exact ((HM5.out).lw.alloc _).drew | with_reducible exact (HM5.out).lw.alloc _ | with_reducible exact (HM5.out).lw.drew.alloc _) ht5 (by show ¬ (1 = _);omega);have c5:=hh5.1.cell t1 HVAL.out;have f5:=hh5.1.frozen t1;(have hw9:=Lb.turn (l:=2) (g:=bw) (t:=52) (by first | with_reducible exact (LW5.out.alloc _).drew | with_reducible exact LW5.out.alloc _ | with_reducible exact LW5.out.drew.alloc _) ht5 (by show ¬ (2 = _);omega);have cw90:=hw9.1.cell 0 rfl;have cw91:=hw9.1.cell 1 rfl))
            refine hK.out _ _ ⟨cw90,cw91⟩ (fun hHeld=>?_)
            clear hK K
            (try simp only [Act.put,List.setIfInBounds_toArray,List.set_cons_zero,List.set_cons_succ])
            refine wpAnyH_take (i:=11) (v:=?_) rfl (by kernel_rfl) (by kernel_rfl) (by kernel_rfl) (fun _ _ _ h=>h) (Or.inl ⟨by rfl, ?_⟩) (by assumption) ?_
            rotate_left
            (focus (intro w hSw;(try dsimp only at hSw);go_simp;(try with_reducible rfl)))
            (try simp only [Act.put,List.setIfInBounds_toArray,List.set_cons_zero,List.set_cons_succ])
            refine wpAnyH_ready (rs:=[12]) (by kernel_rfl) (by simp) ?_
            refine AllReadyH.cons (by rw [List.getElem?_toArray];exact rfl) (fun K hK=>?_) AllReadyH.nil
            (have tok12 : True:=trivial;clear tok12;go_simp)
            refine hK.out _ _ ⟨(World.cell?_setCell_far _ _ _ _ hg2).trans cw90,(World.cell?_setCell_far _ _ _ _ hg2).trans cw91⟩ (fun hHeld=>?_)
            clear hK K
            (try simp only [Act.put,List.setIfInBounds_toArray,List.set_cons_zero,List.set_cons_succ])
            refine wpAnyH_done (by kernel_rfl) ?_ _
            go_wp2_with fail
            go_roundg (gk - 1)
            case measure=>have:=HK.out;omega
            case rel =>
             rw [HLNE.out] at hr5
             (first | (have hpush:=Wym.push (x:=(z1,z2)) ((HM5.out.alloc _).drew) ht1 ht5 hr5) | (have hpush:=Wym.push (x:=(z1,z2)) (HM5.out.alloc _) ht1 ht5 hr5) | (have hpush:=Wym.push (x:=(z1,z2)) (HM5.out.drew.alloc _) ht1 ht5 hr5))
             rw [← HLNE.out] at hpush
             have HPU:=Lib.hid hpush
             have HL2 : Hid ((put W1 t1 (z1,z2)).length = is.length + 1):=Lib.hid (by rw [put_length];exact HLN1.out)
             have HB2 : Hid (∀ k x,x ∈ (put W1 t1 (z1,z2)).getD k [] → InB (t + 1) x):=Lib.hid (fun k x hx=>by
              rcases put_mem ht1 hx with rfl | hx
              ·exact HIN.out
              ·exact HBD1.out k x hx)
             have HW2 : Hid (∀ k,((put W1 t1 (z1,z2)).getD k []).length ≤ 2 * (t + 1) + 1):=Lib.hid (fun k=>put_len ht1 (HLW1.out k))
             exact ⟨t + 1,m2,_,_,put W1 t1 (z1,z2),by have:=HK.out;omega,by (have e9:=HTT.out;subst e9;first | rfl | go_num),rfl,HPU,HL2,HB2,HW2,HMX,Lib.hid (by rw [HTT.out];exact HG2.out)⟩
           ·(have tok9 : True:=trivial;clear tok9;go_simp)
            refine hK.out _ _ ?_ (fun hHeld=>?_)
            (focus (first | (first | (go_keep;done) | (simp [go_sem];done) | ((try dsimp only);(repeat' apply And.intro) <;> (first | (with_reducible assumption) | ((rw [World.cell?_alloc_lt _ _ _ (by show _ < _;omega)]);go_split_ands;(first | with_reducible assumption | (refine (World.cell?_alloc_lt _ _ _ (by show _ < _;omega)).symm.trans ?_;with_reducible assumption))) | ((rw [World.cell?_setCell_other _ _ _ _ (by intro e;injection e;omega)]);with_reducible assumption) | (go_keep;done) | (simp [go_sem];done) | (simp (disch:=go_size) [*,World.cell?_alloc_some,World.cell?_setCell_far];done))))))
            clear hK K
            (try simp only [Act.put,List.setIfInBounds_toArray,List.set_cons_zero,List.set_cons_succ])
            refine wpAnyH_ready (rs:=[7]) (by kernel_rfl) (by simp) ?_
            refine AllReadyH.cons (by rw [List.getElem?_toArray];exact rfl) (fun K hK=>?_) AllReadyH.nil
            (have tok7 : True:=trivial;clear tok7;go_simp)
            refine hK.out _ _ ?_ (fun hHeld=>?_)
            (focus (first | (first | (go_keep;done) | (simp [go_sem];done) | ((try dsimp only);(repeat' apply And.intro) <;> (first | (with_reducible assumption) | ((rw [World.cell?_alloc_lt _ _ _ (by show _ < _;omega)]);go_split_ands;(first | with_reducible assumption | (refine (World.cell?_alloc_lt _ _ _ (by show _ < _;omega)).symm.trans ?_;with_reducible assumption))) | ((rw [World.cell?_setCell_other _ _ _ _ (by intro e;injection e;omega)]);with_reducible assumption) | (go_keep;done) | (simp [go_sem];done) | (simp (disch:=go_size) [*,World.cell?_alloc_some,World.cell?_setCell_far];done))))))
            clear hK K
            (try simp only [Act.put,List.setIfInBounds_toArray,List.set_cons_zero,List.set_cons_succ])
            refine wpAnyH_ready (rs:=[10]) (by kernel_rfl) (by simp) ?_
            refine AllReadyH.cons (by rw [List.getElem?_toArray];exact rfl) (fun K hK=>?_) AllReadyH.nil
            (refine step_pushR rfl _ _ 54 52 2 16 (.agg #[.int .i64 0,.int .i64 0]) rfl Tryd.underlying54 info_way rfl (by decide) _ (3 + t1) u2 ln (wcs ((W1).getD t1 [])) rfl (by first | with_reducible exact (hrow.alloc _).drew | with_reducible exact hrow.alloc _ | with_reducible exact hrow.drew.alloc _) ⟨_,0,none⟩ 1 1 [.int .i64 z1,.int .i64 z2] rfl rfl (by first | with_reducible exact news_newd _ _ _ _ | with_reducible exact news_new _ _ _ _) (two_cells _ _) (by decide) (by omega) (by unfold maxLen;omega) ?_;intro g5 cap5 w9 hr5 ht5 hlt5;have hh5:=Lb.turn (l:=1) (g:=g) (t:=54) (by first | with_reducible exact ((HM5.out).lw.alloc _).drew | with_reducible exact (HM5.out).lw.alloc _ | with_reducible exact (HM5.out).lw.drew.alloc _) ht5 (by show ¬ (1 = _);omega);have c5:=hh5.1.cell t1 HVAL.out;have f5:=hh5.1.frozen t1;(have hw9:=Lb.turn (l:=2) (g:=bw) (t:=52) (by first | with_reducible exact (LW5.out.alloc _).drew | with_reducible exact LW5.out.alloc _ | with_reducible exact LW5.out.drew.alloc _) ht5 (by show ¬ (2 = _);omega);have cw90:=hw9.1.cell 0 rfl;have cw91:=hw9.1.cell 1 rfl))
            refine hK.out _ _ ⟨cw90,cw91⟩ (fun hHeld=>?_)
            clear hK K
            (try simp only [Act.put,List.setIfInBounds_toArray,List.set_cons_zero,List.set_cons_succ])
            refine wpAnyH_take (i:=11) (v:=?_) rfl (by kernel_rfl) (by kernel_rfl) (by kernel_rfl) (fun _ _ _ h=>h) (Or.inl ⟨by rfl, ?_⟩) (by assumption) ?_
            rotate_left
            (focus (intro w hSw;(try dsimp only at hSw);go_simp;(try with_reducible rfl)))
            (try simp only [Act.put,List.setIfInBounds_toArray,List.set_cons_zero,List.set_cons_succ])
            refine wpAnyH_ready (rs:=[12]) (by kernel_rfl) (by simp) ?_
            refine AllReadyH.cons (by rw [List.getElem?_toArray];exact rfl) (fun K hK=>?_) AllReadyH.nil
            (have tok12 : True:=trivial;clear tok12;go_simp)
            refine hK.out _ _ ⟨(World.cell?_setCell_far _ _ _ _ hg2).trans cw90,(World.cell?_setCell_far _ _ _ _ hg2).trans cw91⟩ (fun hHeld=>?_)
            clear hK K
            (try simp only [Act.put,List.setIfInBounds_toArray,List.set_cons_zero,List.set_cons_succ])
            refine wpAnyH_done (by kernel_rfl) ?_ _
            go_wp2_with fail
            go_roundg (gk - 1)
            case measure=>have:=HK.out;omega
            case rel =>
             rw [HLNE.out] at hr5
             (first | (have hpush:=Wym.push (x:=(z1,z2)) ((HM5.out.alloc _).drew) ht1 ht5 hr5) | (have hpush:=Wym.push (x:=(z1,z2)) (HM5.out.alloc _) ht1 ht5 hr5) | (have hpush:=Wym.push (x:=(z1,z2)) (HM5.out.drew.alloc _) ht1 ht5 hr5))
             rw [← HLNE.out] at hpush
             have HPU:=Lib.hid hpush
             have HL2 : Hid ((put W1 t1 (z1,z2)).length = is.length + 1):=Lib.hid (by rw [put_length];exact HLN1.out)
             have HB2 : Hid (∀ k x,x ∈ (put W1 t1 (z1,z2)).getD k [] → InB (t + 1) x):=Lib.hid (fun k x hx=>by
              rcases put_mem ht1 hx with rfl | hx
              ·exact HIN.out
              ·exact HBD1.out k x hx)
             have HW2 : Hid (∀ k,((put W1 t1 (z1,z2)).getD k []).length ≤ 2 * (t + 1) + 1):=Lib.hid (fun k=>put_len ht1 (HLW1.out k))
             exact ⟨t + 1,m2,_,_,put W1 t1 (z1,z2),by have:=HK.out;omega,by (have e9:=HTT.out;subst e9;first | rfl | go_num),rfl,HPU,HL2,HB2,HW2,HMX,Lib.hid (by rw [HTT.out];exact HG2.out)⟩
     ·have hr : (0,2) = R:=by rw [← HVG3.out,dGo_bad2 HH.out (fun hh=>hc (by rw [← HT.out] at hh;exact hh))]
      subst hr
      by_cases h1 : off ≤ x1
      ·have h2 : x2 < ak:=by omega
       clear hc
       go_wp2_with fail
       go_ret2
       exact ⟨rfl,by (repeat' first|(with_reducible first|exact blR _ _|assumption|refine blD ?_|refine blN ?_ _)|((with_reducible first|refine blA ?_ ?_ _|refine blS ?_ ?_ _|refine blT (by assumption) ?_ ?_);focus (go_size;done)))⟩
      ·have h2 : x1 < off:=by omega
       clear hc h1
       go_wp2_with fail
       go_ret2
       exact ⟨rfl,by (repeat' first|(with_reducible first|exact blR _ _|assumption|refine blD ?_|refine blN ?_ _)|((with_reducible first|refine blA ?_ ?_ _|refine blS ?_ ?_ _|refine blT (by assumption) ?_ ?_);focus (go_size;done)))⟩
  ·have tokz : (0 : Int) = 0:=rfl
   clear tokz
   obtain rfl : t = is.length:=by omega
   have hvg : (if alikeB (W.getD is.length []) = true ∧ (W.getD is.length []).head? = some (1,0) then (max m 1,0) else (0,2)) = R:=by
    have:=HVG.out
    rw [pairs_end] at this
    exact this
   have HV2:=Lib.hid hvg
   have htW : is.length < W.length:=by have:=HLN.out;omega
   have ct:=HMM.out.cell htW
   have HAL:=Lib.hid (fun n=>alike_q _ _ (wr.drewN n) ((HMM.out.drewN n).wyl htW))
   have HYL:=Lib.hid (HMM.out.wyl htW)
   have hbl:=HMM.out.below
   have hle:=hbl.size
   have lg:=HMM.out.lw.1.lt
   have cF:=HMM.out.lf.1.cell 1 rfl
   have lF:=HMM.out.lf.1.lt
   obtain ⟨A0,C0,hv0,hl0,_⟩:=HC.out
   obtain ⟨rfl,-,rfl⟩ : A = A0 ∧ is.length = is.length ∧ C = C0:=by injection hv0 with e1 e2 e3;exact ⟨e1,rfl,e3⟩
   clear hvg hv0 hl0 hlt HVG
   obtain ⟨u,hu⟩ : ∃ u,u = vs.getD is.length undef:=⟨_,rfl⟩
   rw [← hu] at ct HAL HYL
   clear hu
   obtain ⟨l,hl⟩ : ∃ l,l = W.getD is.length []:=⟨_,rfl⟩
   rw [← hl] at HV2 HAL HYL
   clear hl
   cases hz : alikeB l with
   | false =>
    have hr:=HV2.out
    rw [hz,if_neg (fun h=>Bool.noConfusion h.1)] at hr
    subst hr
    rw [hz] at HAL
    clear HV2 hz
    go_wp2_with fail
    go_quiet ((go_at_call 24;(first | exact Calls.quiet_of (HAL.out _) | exact quiet_add (HAL.out _))))
    go_wp2_with fail
    go_ret2
    exact ⟨rfl,below_drewN (by (repeat' first|(with_reducible first|exact blR _ _|assumption|refine blD ?_|refine blN ?_ _)|((with_reducible first|refine blA ?_ ?_ _|refine blS ?_ ?_ _|refine blT (by assumption) ?_ ?_);focus (go_size;done)))) _⟩
   | true =>
    rw [hz] at HAL
    obtain ⟨hpos,_⟩:=alike_iff.1 hz
    have HH:=Lib.hid (head_wg hpos)
    obtain ⟨A2,C2,hu2,hl2m⟩ : ∃ A2 C2,u = .slice A2 l.length C2 ∧ l.length ≤ maxLen:=by
     obtain ⟨A2,C2,q1,q2,_⟩:=HYL.out
     exact ⟨A2,C2,q1,q2⟩
    subst hu2
    obtain ⟨b2,p2,rfl,ay⟩:=HYL.out.at hpos
    rw [Nat.zero_mul,Nat.add_zero] at ay
    obtain ⟨x,hx⟩ : ∃ x,x = wg l 0:=⟨_,rfl⟩
    rw [← hx] at HH ay
    obtain ⟨x1,x2⟩:=x
    obtain ⟨y1,y2⟩:=ay.way
    dsimp only at y1 y2
    have l2:=cell_lt2 y1
    obtain ⟨lt,hlt2⟩ : ∃ lt,lt = l.length:=⟨_,rfl⟩
    rw [← hlt2] at hpos HAL ct hl2m
    have hposc : (0 : Int) < (lt : Int):=by omega
    have hr:=HV2.out
    rw [hz,HH.out] at hr
    have HR:=Lib.hid hr
    unfold maxLen at hl2m
    clear HV2 hz hx ay hlt2 HYL hr HH
    cases hq : (x1 == 1 && x2 == 0) with
    | true =>
     have r1 : ∀ W,(binOp .neq 52 (.agg #[.int .i64 x1,.int .i64 x2]) (.agg #[.int .i64 1,.int .i64 0])).run Tryd.prog W = .ok (.bool false) W:=fun W=>by rw [neq_way,hq];rfl
     obtain ⟨q1,q2⟩:=Bool.and_eq_true_iff.1 hq
     have q1:=beq_iff_eq.1 q1
     have q2:=beq_iff_eq.1 q2
     have hr:=HR.out
     rw [if_pos ⟨rfl,by rw [q1,q2]⟩] at hr
     subst hr
     clear HR hq q1 q2
     have hmb:=HMB.out
     rcases Int.lt_or_le m 1 with hmx | hmx
     ·go_wp2_with fail
      go_quiet ((go_at_call 24;(first | exact Calls.quiet_of (HAL.out _) | exact quiet_add (HAL.out _))))
      go_wp2_with fail
      go_ret2
      exact ⟨by rw [Int.max_eq_right (by omega)];rfl,below_drewN (by (repeat' first|(with_reducible first|exact blR _ _|assumption|refine blD ?_|refine blN ?_ _)|((with_reducible first|refine blA ?_ ?_ _|refine blS ?_ ?_ _|refine blT (by assumption) ?_ ?_);focus (go_size;done)))) _⟩
     ·go_wp2_with fail
      go_quiet ((go_at_call 24;(first | exact Calls.quiet_of (HAL.out _) | exact quiet_add (HAL.out _))))
      go_wp2_with fail
      go_ret2
      exact ⟨by rw [Int.max_eq_left (by omega)];rfl,below_drewN (by (repeat' first|(with_reducible first|exact blR _ _|assumption|refine blD ?_|refine blN ?_ _)|((with_reducible first|refine blA ?_ ?_ _|refine blS ?_ ?_ _|refine blT (by assumption) ?_ ?_);focus (go_size;done)))) _⟩
    | false =>
     have r1 : ∀ W,(binOp .neq 52 (.agg #[.int .i64 x1,.int .i64 x2]) (.agg #[.int .i64 1,.int .i64 0])).run Tryd.prog W = .ok (.bool true) W:=fun W=>by rw [neq_way,hq];rfl
     have hr:=HR.out
     rw [if_neg (fun h=>by
      have h2:=h.2
      injection h2 with h2
      injection h2 with q1 q2
      subst q1 q2
      revert hq
      decide)] at hr
     subst hr
     clear HR hq
     go_wp2_with fail
     go_quiet ((go_at_call 24;(first | exact Calls.quiet_of (HAL.out _) | exact quiet_add (HAL.out _))))
     go_wp2_with fail
     go_ret2
     exact ⟨rfl,below_drewN (by (repeat' first|(with_reducible first|exact blR _ _|assumption|refine blD ?_|refine blN ?_ _)|((with_reducible first|refine blA ?_ ?_ _|refine blS ?_ ?_ _|refine blT (by assumption) ?_ ?_);focus (go_size;done)))) _⟩
theorem docverify_any (is : List InsD) (v : Value) (b : Bool) (w : World) (h : Cod w v is) : Calls Tryd.prog 13 #[v,.bool b] w (DocPost is b w):=by
 by_cases hl : 600 < is.length
 ·exact doc_long is v b w h hl
 ·cases b with
  | true=>exact doc_in_true is v w h (by omega)
  | false=>exact doc_in_false is v w h (by omega)
end Go.Proofs.YtnhmplfonkjfoaaDoor



namespace Go.Proofs.YtnhmplfonkjfoaaDoor
open Go.RowKit

set_option maxRecDepth 100000 in
set_option maxHeartbeats 20000000 in
theorem verify_in_false (is : List InsD) (v : Value) (w : World) (h : Cod w v is) (hl : is.length ≤ 600) : Calls Tryd.prog 14 #[v,.bool false] w (VerPost is false w):=by
 obtain ⟨R,hR⟩ : ∃ R,R = verS (pairs is) (fB false):=⟨_,rfl⟩
 have HV : Hid (vGo is.length (fB false) (pairs is) 0 (some (0,fB false) :: List.replicate is.length none) 0 = R):=Lib.hid (by
  rw [hR];unfold verS;rw [if_neg (by rw [pairs_length];omega),pairs_length])
 unfold VerPost
 rw [← hR]
 clear hR
 have HC:=Lib.hid h
 obtain ⟨A,C,rfl,h2,h3⟩:=h
 have hl2 : ((is.length : Int)) ≤ 600:=by omega
 clear h3 h2
 obtain ⟨i0,hi0,hz0,hs0,hb0⟩:=info_parts info_state
 have hmk : ∀ W : World,(Instr.makeSlice 58 (.int .i64 ((is.length : Int) + 1)) (.int .i64 ((is.length : Int) + 1))).run Tryd.prog W = .ok (.slice (some ⟨W.heap.size,0,none⟩) (is.length + 1) (is.length + 1)) (W.alloc (.cells (madeCells #[.bool false,.int .i64 0,.int .i64 0] ((is.length + 1) * 3)) 60)):=fun W=>by
  have:=run_make (P:=Tryd.prog) W 58 60 i0 _ Tryd.underlying58 hi0 hz0 .i64 .i64 ((is.length : Int) + 1) ((is.length : Int) + 1) (by omega) (by omega) (by rw [hb0];omega) (by omega)
  rw [this]
  have e : ((is.length : Int) + 1).toNat = is.length + 1:=by omega
  rw [e,hs0]
  rfl
 clear hi0 hz0 hs0 hb0
 have hm0:=Stt.made w (is.length + 1)
 obtain ⟨mc,hmc⟩ : ∃ mc,mc = madeCells #[.bool false,.int .i64 0,.int .i64 0] ((is.length + 1) * 3):=⟨_,rfl⟩
 have HM0:=fun f=>Lib.hid (Stt.first w is.length f)
 rw [← hmc] at hmk hm0
 simp only [← hmc] at HM0
 have HM1:=Lib.hid HM0
 have hr0 : 0 < (List.replicate (is.length + 1) (none : Option Way)).length:=by simp
 have k0 : (w.alloc (.cells mc 60)).cell? ⟨w.heap.size,0,none⟩ = some (.bool false):=(hm0.cells hr0).1
 have k1 : (w.alloc (.cells mc 60)).cell? ⟨w.heap.size,1,none⟩ = some (.int .i64 0):=(hm0.cells hr0).2.1
 have k2 : (w.alloc (.cells mc 60)).cell? ⟨w.heap.size,2,none⟩ = some (.int .i64 0):=(hm0.cells hr0).2.2
 have m0 : mc[0]? = some (.bool false):=by
  have:=made_at (.bool false) (.int .i64 0) (.int .i64 0) (is.length + 1) 0 0 (by omega) (by decide)
  rw [← hmc] at this;simpa using this
 have m1 : mc[1]? = some (.int .i64 0):=by
  have:=made_at (.bool false) (.int .i64 0) (.int .i64 0) (is.length + 1) 0 1 (by omega) (by decide)
  rw [← hmc] at this;simpa using this
 have m2 : mc[2]? = some (.int .i64 0):=by
  have:=made_at (.bool false) (.int .i64 0) (.int .i64 0) (is.length + 1) 0 2 (by omega) (by decide)
  rw [← hmc] at this;simpa using this
 clear hmc hm0 HM0
 go_enter Tryd.func14,Tryd.ntmps14
 go_wp2_with fail
 have HS0:=Lib.hid (HM1.out 0).out
 have HB0 : Hid (Below w.heap.size w (w.alloc (.cells (((mc.setIfInBounds 0 (.bool true)).setIfInBounds 1 (.int .i64 0)).setIfInBounds 2 (.int .i64 0)) 60))):=Lib.hid (by (repeat' first|(with_reducible first|exact blR _ _|assumption|refine blD ?_|refine blN ?_ _)|((with_reducible first|refine blA ?_ ?_ _|refine blS ?_ ?_ _|refine blT (by assumption) ?_ ?_);focus (go_size;done))))
 clear k0 k1 k2 m0 m1 m2 hmk
 go_loopg [8,30] is.length (fun k s8 s30 wr=>∃ (t : Nat) (m : Int) (S : St),k + t = is.length ∧ s30 = .int .i64 t ∧ s8 = .int .i64 m ∧ Hid (Stt wr (ov w.heap.size) 1 w.heap.size S) ∧ Hid (Below w.heap.size w wr) ∧ Hid (S.length = is.length + 1) ∧ Hid (∀ k x,S.getD k none = some x → InB t x) ∧ Hid (0 ≤ m ∧ m ≤ 600) ∧ Hid (vGo is.length 0 ((pairs is).drop t) t S m = R))
 case atStart =>
  refine ⟨0,0,some (0,0) :: List.replicate is.length none,by omega,rfl,rfl,HS0,HB0,Lib.hid (by simp),Lib.hid (fun k x hx=>?_),Lib.hid ⟨by omega,by omega⟩,HV⟩
  cases k with
  | zero=>simp at hx;subst hx;exact ⟨by simp,by simp,by simp,by simp⟩
  | succ k =>
   rw [List.getD_eq_getElem?_getD,List.getElem?_cons_succ,List.getElem?_replicate] at hx
   split at hx <;> cases hx
 case round =>
  obtain ⟨t,m,S,hk,rfl,rfl,HST,HBL,HLN,HBD,HM,HVG⟩:=hrel
  have HK:=Lib.hid hk
  have htn : t ≤ is.length:=by omega
  clear hk HS0 HB0 HM1 hr0
  by_cases hlt : t < is.length
  ·obtain ⟨b1,o1,rfl,hat⟩:=(HC.out.below HBL.out).at hlt
   obtain ⟨I,hI⟩ : ∃ I,I = ig is t:=⟨_,rfl⟩
   have HD:=pairs_drop hlt
   rw [← hI] at hat HD
   obtain ⟨op,a,tx,ng,hi,lo,sc,dy⟩:=I
   have HVG2:=HVG.out
   rw [HD] at HVG2
   have HVG3:=Lib.hid HVG2
   have HI:=Lib.hid hI
   clear hI HD HVG2 HVG
   obtain ⟨a0,a1,a2,a3,a4,a5,a6,a7⟩:=hat.ins
   dsimp only at a0 a1 a2 a3 a4 a5 a6 a7
   clear hat
   have HE:=Lib.hid (effect_any op a tx ng hi lo sc dy)
   go_wp2_with fail
   refine (HE.out _).mono ?_
   rintro _ w1 ⟨rfl,hb1⟩
   have hwr:=HST.out.lt
   have hs1 : wr.heap.size + 1 ≤ w1.heap.size:=by have:=hb1.size;rwa [World.size_alloc] at this
   have KC:=Lib.hid ((Bk.new wr 43 [.int .i64 op,.int .i64 a,.string tx,.bool ng,.int .u64 hi,.int .u64 lo,.int .i64 sc,.int .i64 dy]).below hb1 (by rw [World.size_alloc];omega))
   have ST1:=Lib.hid ((HST.out.alloc _).below hb1)
   have BL1 : Hid (Below w.heap.size w w1):=Lib.hid ((HBL.out.alloc (Nat.le_of_lt hwr) _).trans (hb1.mono (by rw [World.size_alloc];omega)))
   clear hb1 HE a0 a1 a2 a3 a4 a5 a6 a7 HST HBL
   obtain ⟨q,hq⟩ : ∃ q,q = wr.heap.size:=⟨_,rfl⟩
   rw [← hq] at hwr hs1 KC
   rw [← hq]
   clear hq
   obtain ⟨T,hT⟩ : ∃ T,T = tk op a:=⟨_,rfl⟩
   have HTB:=tk_TB op a
   rw [← hT] at HTB
   rw [← hT]
   obtain ⟨off,on,tu,ak,ok⟩:=T
   have k0 : w1.cell? ⟨q,0,none⟩ = some (.int .i64 op):=KC.out.cell 0 rfl
   have k1 : w1.cell? ⟨q,1,none⟩ = some (.int .i64 a):=KC.out.cell 1 rfl
   have hlS : t < S.length:=by have:=HLN.out;omega
   obtain ⟨s0,s1,s2⟩:=ST1.out.cells hlS
   have HT:=Lib.hid hT
   dsimp only
   clear hT
   have HTB2:=Lib.hid HTB
   clear HTB
   have hgl:=ST1.out.lt
   have hql : q < w1.heap.size:=hs1
   cases ok with
   | false =>
    have hr : (0,2) = R:=by
     cases e : S.getD t none with
     | none=>rw [← HVG3.out,vGo_none e]
     | some x=>rw [← HVG3.out,vGo_bad e (fun hh=>by rw [← HT.out] at hh;exact Bool.noConfusion hh.1)]
    subst hr
    have hbl:=BL1.out
    have hle:=hbl.size
    go_wp2_with fail
    go_ret2
    exact ⟨rfl,by (repeat' first|(with_reducible first|exact blR _ _|assumption|refine blD ?_|refine blN ?_ _)|((with_reducible first|refine blA ?_ ?_ _|refine blS ?_ ?_ _|refine blT (by assumption) ?_ ?_);focus (go_size;done)))⟩
   | true =>
    have hbl:=BL1.out
    have hle:=hbl.size
    cases e : S.getD t none with
    | none =>
     have hr : (0,2) = R:=by rw [← HVG3.out,vGo_none e]
     subst hr
     rw [e] at s0 s1 s2
     dsimp only [oB,oH,oE,Option.isSome,Option.getD] at s0 s1 s2
     clear e
     go_wp2_with fail
     go_ret2
     exact ⟨rfl,by (repeat' first|(with_reducible first|exact blR _ _|assumption|refine blD ?_|refine blN ?_ _)|((with_reducible first|refine blA ?_ ?_ _|refine blS ?_ ?_ _|refine blT (by assumption) ?_ ?_);focus (go_size;done)))⟩
    | some x =>
     have HX:=HBD.out t _ e
     obtain ⟨x1,x2⟩:=x
     rw [e] at s0 s1 s2
     dsimp only [oB,oH,oE,Option.isSome,Option.getD] at s0 s1 s2
     by_cases hc : off ≤ x1 ∧ ak ≤ x2
     ·obtain ⟨h1,h2⟩:=hc
      have hcc : (tk op a).2.2.2.2 = true ∧ (tk op a).1 ≤ (x1,x2).1 ∧ (tk op a).2.2.2.1 ≤ (x1,x2).2:=by rw [← HT.out];exact ⟨rfl,h1,h2⟩
      have haf : after op a (x1,x2) = (x1 - off + on,x2 + tu):=by unfold after;rw [← HT.out]
      have HIN:=Lib.hid (InB.next HX hcc.1 hcc.2.1)
      obtain ⟨b1,b2,b3,b4,b5,b6,b7,_⟩:=HTB2.out rfl
      obtain ⟨c1,c2,c3,c4⟩:=HX
      dsimp only at b1 b2 b3 b4 b5 b6 b7 c1 c2 c3 c4
      have HE:=Lib.hid e
      have HCC:=Lib.hid hcc
      have HAF:=Lib.hid haf
      clear e hcc haf
      rcases Int.lt_or_le m x1 with hmx | hmx
      ·have tok2:=trivial
       have hmax : Hid (max m x1 = x1):=Lib.hid (by omega)
       have HRE2:=Lib.hid (fun W S1 (hl1 : S1.length = is.length + 1) hst=>reach_any W (ov w.heap.size) 1 w.heap.size S1 hst (t + 1) (by omega) (x1 - off + on,x2 + tu))
       by_cases hj : op = 101 ∨ op = 102
       ·by_cases hb : (t : Int) < a ∧ a ≤ is.length
        ·obtain ⟨d1,d2⟩:=hb
         obtain ⟨j,hj2⟩:=Int.eq_ofNat_of_zero_le (show 0 ≤ a by omega)
         subst hj2
         have HRE:=Lib.hid (fun W hst=>reach_any W (ov w.heap.size) 1 w.heap.size S hst j (by have:=HLN.out;omega) (x1 - off + on,x2 + tu))
         rcases hj with rfl | rfl
         ·go_wp2_with fail
          go_quiet (fail)
          go_wp2_with fail
          refine (HRE.out _ ?st).mono ?_
          case st=>exact (ST1.out.alloc _).alloc _
          rintro _ w3 ⟨t3,hp3⟩
          have hb3 : Below w.heap.size w w3:=by
           refine Below.trans ?_ (t3.below (fun k hk=>by rw [ov_low hk];decide) ?_)
           ·(repeat' first|(with_reducible first|exact blR _ _|assumption|refine blD ?_|refine blN ?_ _)|((with_reducible first|refine blA ?_ ?_ _|refine blS ?_ ?_ _|refine blT (by assumption) ?_ ?_);focus (go_size;done)))
           ·go_size
          have KC3 : Bk w3 q _ _:=(t3.block q (by go_size) (by rw [ov_up hwr];decide)).trans ((KC.out.alloc _).alloc _)
          have k03 : w3.cell? ⟨q,0,none⟩ = some _:=KC3.cell 0 rfl
          have hs3:=hb3.size
          rcases hp3 with ⟨S1,hn,rfl,st3⟩ | ⟨hn,rfl⟩
          ·have hv:=HVG3.out
           rw [vGo_jump HE.out HCC.out rfl ⟨d1,d2⟩ (by rw [HAF.out];exact hn),vTail_101] at hv
           dsimp only at hv
           rw [hmax.out] at hv
           try clear hbl
           go_wp2_with fail
           go_roundg (gk - 1)
           case measure=>have:=HK.out;omega
           case rel=>exact ⟨t + 1,x1,S1,by have:=HK.out;omega,by go_num,rfl,Lib.hid st3,Lib.hid hb3,Lib.hid (by rw [note_length hn];exact HLN.out),Lib.hid (note_inB hn (by have:=HLN.out;omega) (fun j y hy=>(HBD.out j y hy).up) (by rw [← HAF.out];exact HIN.out)),Lib.hid (by have:=HM.out;omega),Lib.hid hv⟩
          ·have hr : (0,2) = R:=by rw [← HVG3.out,vGo_un HE.out HCC.out rfl ⟨d1,d2⟩ (by rw [HAF.out];exact hn)]
           subst hr
           try clear hbl
           go_wp2_with fail
           go_ret2
           exact ⟨rfl,by (repeat' first|(with_reducible first|exact blR _ _|assumption|refine blD ?_|refine blN ?_ _)|((with_reducible first|refine blA ?_ ?_ _|refine blS ?_ ?_ _|refine blT (by assumption) ?_ ?_);focus (go_size;done)))⟩
         ·go_wp2_with fail
          go_quiet (fail)
          go_wp2_with fail
          refine (HRE.out _ ?st).mono ?_
          case st=>exact (ST1.out.alloc _).alloc _
          rintro _ w3 ⟨t3,hp3⟩
          have hb3 : Below w.heap.size w w3:=by
           refine Below.trans ?_ (t3.below (fun k hk=>by rw [ov_low hk];decide) ?_)
           ·(repeat' first|(with_reducible first|exact blR _ _|assumption|refine blD ?_|refine blN ?_ _)|((with_reducible first|refine blA ?_ ?_ _|refine blS ?_ ?_ _|refine blT (by assumption) ?_ ?_);focus (go_size;done)))
           ·go_size
          have KC3 : Bk w3 q _ _:=(t3.block q (by go_size) (by rw [ov_up hwr];decide)).trans ((KC.out.alloc _).alloc _)
          have k03 : w3.cell? ⟨q,0,none⟩ = some _:=KC3.cell 0 rfl
          have hs3:=hb3.size
          rcases hp3 with ⟨S1,hn,rfl,st3⟩ | ⟨hn,rfl⟩
          ·have hvt : Hid (vTail is.length 0 102 j ((pairs is).drop (t + 1)) t S1 m (x1,x2) = R):=Lib.hid (by
            rw [← HVG3.out,vGo_jump HE.out HCC.out rfl ⟨d1,d2⟩ (by rw [HAF.out];exact hn)])
           have hL1 : Hid (S1.length = is.length + 1):=Lib.hid (by rw [note_length hn];exact HLN.out)
           have hB1 : Hid (∀ j y,S1.getD j none = some y → InB (t + 1) y):=Lib.hid (note_inB hn (by have:=HLN.out;omega) (fun j y hy=>(HBD.out j y hy).up) (by rw [← HAF.out];exact HIN.out))
           have HS3:=Lib.hid st3
           have hgl3:=st3.lt
           clear st3 hn hbl KC3 t3
           go_wp2_with fail
           refine (HRE2.out _ _ (hL1.out) ?st).mono ?_
           case st=>exact HS3.out
           rintro _ w4 ⟨t4,hp4⟩
           have hb4 : Below w.heap.size w w4:=by
            refine Below.trans ?_ (t4.below (fun k hk=>by rw [ov_low hk];decide) ?_)
            ·(repeat' first|(with_reducible first|exact blR _ _|assumption|refine blD ?_|refine blN ?_ _)|((with_reducible first|refine blA ?_ ?_ _|refine blS ?_ ?_ _|refine blT (by assumption) ?_ ?_);focus (go_size;done)))
            ·go_size
           rcases hp4 with ⟨S2,hn4,rfl,st4⟩ | ⟨hn4,rfl⟩
           ·have hv:=hvt.out
            rw [vTail_go (by decide) (by rw [HAF.out];exact hn4)] at hv
            dsimp only at hv
            rw [hmax.out] at hv
            try clear hbl
            go_wp2_with fail
            go_roundg (gk - 1)
            case measure=>have:=HK.out;omega
            case rel=>exact ⟨t + 1,x1,S2,by have:=HK.out;omega,by go_num,rfl,Lib.hid st4,Lib.hid hb4,Lib.hid (by rw [note_length hn4];exact hL1.out),Lib.hid (note_inB hn4 (by have h9:=hL1.out;omega) hB1.out (by rw [← HAF.out];exact HIN.out)),Lib.hid (by have:=HM.out;omega),Lib.hid hv⟩
           ·have hr : (0,2) = R:=by rw [← hvt.out,vTail_un (by decide) (by rw [HAF.out];exact hn4)]
            subst hr
            try clear hbl
            go_wp2_with fail
            go_ret2
            exact ⟨rfl,by (repeat' first|(with_reducible first|exact blR _ _|assumption|refine blD ?_|refine blN ?_ _)|((with_reducible first|refine blA ?_ ?_ _|refine blS ?_ ?_ _|refine blT (by assumption) ?_ ?_);focus (go_size;done)))⟩
          ·have hr : (0,2) = R:=by rw [← HVG3.out,vGo_un HE.out HCC.out rfl ⟨d1,d2⟩ (by rw [HAF.out];exact hn)]
           subst hr
           try clear hbl
           go_wp2_with fail
           go_ret2
           exact ⟨rfl,by (repeat' first|(with_reducible first|exact blR _ _|assumption|refine blD ?_|refine blN ?_ _)|((with_reducible first|refine blA ?_ ?_ _|refine blS ?_ ?_ _|refine blT (by assumption) ?_ ?_);focus (go_size;done)))⟩
        ·rcases hj with rfl | rfl
         ·have tok3:=trivial
          have hr : (0,2) = R:=by rw [← HVG3.out,vGo_out HE.out HCC.out rfl hb]
          subst hr
          have hb2 : a ≤ t ∨ (is.length : Int) < a:=by omega
          rcases hb2 with hb2 | hb2
          ·go_wp2_with fail
           go_quiet (fail)
           go_wp2_with fail
           go_ret2
           exact ⟨rfl,by (repeat' first|(with_reducible first|exact blR _ _|assumption|refine blD ?_|refine blN ?_ _)|((with_reducible first|refine blA ?_ ?_ _|refine blS ?_ ?_ _|refine blT (by assumption) ?_ ?_);focus (go_size;done)))⟩
          ·have hb3 : ¬ a ≤ t:=by omega
           go_wp2_with fail
           go_quiet (fail)
           go_wp2_with fail
           go_ret2
           exact ⟨rfl,by (repeat' first|(with_reducible first|exact blR _ _|assumption|refine blD ?_|refine blN ?_ _)|((with_reducible first|refine blA ?_ ?_ _|refine blS ?_ ?_ _|refine blT (by assumption) ?_ ?_);focus (go_size;done)))⟩
         ·have tok3:=trivial
          have hr : (0,2) = R:=by rw [← HVG3.out,vGo_out HE.out HCC.out rfl hb]
          subst hr
          have hb2 : a ≤ t ∨ (is.length : Int) < a:=by omega
          rcases hb2 with hb2 | hb2
          ·go_wp2_with fail
           go_quiet (fail)
           go_wp2_with fail
           go_ret2
           exact ⟨rfl,by (repeat' first|(with_reducible first|exact blR _ _|assumption|refine blD ?_|refine blN ?_ _)|((with_reducible first|refine blA ?_ ?_ _|refine blS ?_ ?_ _|refine blT (by assumption) ?_ ?_);focus (go_size;done)))⟩
          ·have hb3 : ¬ a ≤ t:=by omega
           go_wp2_with fail
           go_quiet (fail)
           go_wp2_with fail
           go_ret2
           exact ⟨rfl,by (repeat' first|(with_reducible first|exact blR _ _|assumption|refine blD ?_|refine blN ?_ _)|((with_reducible first|refine blA ?_ ?_ _|refine blS ?_ ?_ _|refine blT (by assumption) ?_ ?_);focus (go_size;done)))⟩
       ·have q1 : (op == 101) = false:=by rw [beq_eq_false_iff_ne];omega
        have q2 : (op == 102) = false:=by rw [beq_eq_false_iff_ne];omega
        have q3 : (op != 101) = true:=by rw [bne_iff_ne];omega
        have hne : op ≠ 101:=by omega
        have hvt : Hid (vTail is.length 0 op a ((pairs is).drop (t + 1)) t S m (x1,x2) = R):=Lib.hid (by
         rw [← HVG3.out,vGo_plain HE.out HCC.out (decide_eq_false hj)])
        have HNE:=Lib.hid hne
        clear hj hne
        go_wp2_with fail
        go_quiet (fail)
        go_wp2_with fail
        refine (HRE2.out _ _ (HLN.out) ?st).mono ?_
        case st=>exact ((ST1.out.alloc _).alloc _)
        rintro _ w4 ⟨t4,hp4⟩
        have hb4 : Below w.heap.size w w4:=by
         refine Below.trans ?_ (t4.below (fun k hk=>by rw [ov_low hk];decide) ?_)
         ·(repeat' first|(with_reducible first|exact blR _ _|assumption|refine blD ?_|refine blN ?_ _)|((with_reducible first|refine blA ?_ ?_ _|refine blS ?_ ?_ _|refine blT (by assumption) ?_ ?_);focus (go_size;done)))
         ·go_size
        rcases hp4 with ⟨S2,hn4,rfl,st4⟩ | ⟨hn4,rfl⟩
        ·have hv:=hvt.out
         rw [vTail_go HNE.out (by rw [HAF.out];exact hn4)] at hv
         dsimp only at hv
         rw [hmax.out] at hv
         try clear hbl
         go_wp2_with fail
         go_roundg (gk - 1)
         case measure=>have:=HK.out;omega
         case rel=>exact ⟨t + 1,x1,S2,by have:=HK.out;omega,by go_num,rfl,Lib.hid st4,Lib.hid hb4,Lib.hid (by rw [note_length hn4];exact HLN.out),Lib.hid (note_inB hn4 (by have h9:=HLN.out;omega) (fun j y hy=>(HBD.out j y hy).up) (by rw [← HAF.out];exact HIN.out)),Lib.hid (by have:=HM.out;omega),Lib.hid hv⟩
        ·have hr : (0,2) = R:=by rw [← hvt.out,vTail_un HNE.out (by rw [HAF.out];exact hn4)]
         subst hr
         try clear hbl
         go_wp2_with fail
         go_ret2
         exact ⟨rfl,by (repeat' first|(with_reducible first|exact blR _ _|assumption|refine blD ?_|refine blN ?_ _)|((with_reducible first|refine blA ?_ ?_ _|refine blS ?_ ?_ _|refine blT (by assumption) ?_ ?_);focus (go_size;done)))⟩
      ·have tok2:=trivial
       have hmax : Hid (max m x1 = m):=Lib.hid (by omega)
       have HRE2:=Lib.hid (fun W S1 (hl1 : S1.length = is.length + 1) hst=>reach_any W (ov w.heap.size) 1 w.heap.size S1 hst (t + 1) (by omega) (x1 - off + on,x2 + tu))
       by_cases hj : op = 101 ∨ op = 102
       ·by_cases hb : (t : Int) < a ∧ a ≤ is.length
        ·obtain ⟨d1,d2⟩:=hb
         obtain ⟨j,hj2⟩:=Int.eq_ofNat_of_zero_le (show 0 ≤ a by omega)
         subst hj2
         have HRE:=Lib.hid (fun W hst=>reach_any W (ov w.heap.size) 1 w.heap.size S hst j (by have:=HLN.out;omega) (x1 - off + on,x2 + tu))
         rcases hj with rfl | rfl
         ·go_wp2_with fail
          go_quiet (fail)
          go_wp2_with fail
          refine (HRE.out _ ?st).mono ?_
          case st=>exact (ST1.out.alloc _).alloc _
          rintro _ w3 ⟨t3,hp3⟩
          have hb3 : Below w.heap.size w w3:=by
           refine Below.trans ?_ (t3.below (fun k hk=>by rw [ov_low hk];decide) ?_)
           ·(repeat' first|(with_reducible first|exact blR _ _|assumption|refine blD ?_|refine blN ?_ _)|((with_reducible first|refine blA ?_ ?_ _|refine blS ?_ ?_ _|refine blT (by assumption) ?_ ?_);focus (go_size;done)))
           ·go_size
          have KC3 : Bk w3 q _ _:=(t3.block q (by go_size) (by rw [ov_up hwr];decide)).trans ((KC.out.alloc _).alloc _)
          have k03 : w3.cell? ⟨q,0,none⟩ = some _:=KC3.cell 0 rfl
          have hs3:=hb3.size
          rcases hp3 with ⟨S1,hn,rfl,st3⟩ | ⟨hn,rfl⟩
          ·have hv:=HVG3.out
           rw [vGo_jump HE.out HCC.out rfl ⟨d1,d2⟩ (by rw [HAF.out];exact hn),vTail_101] at hv
           dsimp only at hv
           rw [hmax.out] at hv
           try clear hbl
           go_wp2_with fail
           go_roundg (gk - 1)
           case measure=>have:=HK.out;omega
           case rel=>exact ⟨t + 1,m,S1,by have:=HK.out;omega,by go_num,rfl,Lib.hid st3,Lib.hid hb3,Lib.hid (by rw [note_length hn];exact HLN.out),Lib.hid (note_inB hn (by have:=HLN.out;omega) (fun j y hy=>(HBD.out j y hy).up) (by rw [← HAF.out];exact HIN.out)),Lib.hid (by have:=HM.out;omega),Lib.hid hv⟩
          ·have hr : (0,2) = R:=by rw [← HVG3.out,vGo_un HE.out HCC.out rfl ⟨d1,d2⟩ (by rw [HAF.out];exact hn)]
           subst hr
           try clear hbl
           go_wp2_with fail
           go_ret2
           exact ⟨rfl,by (repeat' first|(with_reducible first|exact blR _ _|assumption|refine blD ?_|refine blN ?_ _)|((with_reducible first|refine blA ?_ ?_ _|refine blS ?_ ?_ _|refine blT (by assumption) ?_ ?_);focus (go_size;done)))⟩
         ·go_wp2_with fail
          go_quiet (fail)
          go_wp2_with fail
          refine (HRE.out _ ?st).mono ?_
          case st=>exact (ST1.out.alloc _).alloc _
          rintro _ w3 ⟨t3,hp3⟩
          have hb3 : Below w.heap.size w w3:=by
           refine Below.trans ?_ (t3.below (fun k hk=>by rw [ov_low hk];decide) ?_)
           ·(repeat' first|(with_reducible first|exact blR _ _|assumption|refine blD ?_|refine blN ?_ _)|((with_reducible first|refine blA ?_ ?_ _|refine blS ?_ ?_ _|refine blT (by assumption) ?_ ?_);focus (go_size;done)))
           ·go_size
          have KC3 : Bk w3 q _ _:=(t3.block q (by go_size) (by rw [ov_up hwr];decide)).trans ((KC.out.alloc _).alloc _)
          have k03 : w3.cell? ⟨q,0,none⟩ = some _:=KC3.cell 0 rfl
          have hs3:=hb3.size
          rcases hp3 with ⟨S1,hn,rfl,st3⟩ | ⟨hn,rfl⟩
          ·have hvt : Hid (vTail is.length 0 102 j ((pairs is).drop (t + 1)) t S1 m (x1,x2) = R):=Lib.hid (by
            rw [← HVG3.out,vGo_jump HE.out HCC.out rfl ⟨d1,d2⟩ (by rw [HAF.out];exact hn)])
           have hL1 : Hid (S1.length = is.length + 1):=Lib.hid (by rw [note_length hn];exact HLN.out)
           have hB1 : Hid (∀ j y,S1.getD j none = some y → InB (t + 1) y):=Lib.hid (note_inB hn (by have:=HLN.out;omega) (fun j y hy=>(HBD.out j y hy).up) (by rw [← HAF.out];exact HIN.out))
           have HS3:=Lib.hid st3
           have hgl3:=st3.lt
           clear st3 hn hbl KC3 t3
           go_wp2_with fail
           refine (HRE2.out _ _ (hL1.out) ?st).mono ?_
           case st=>exact HS3.out
           rintro _ w4 ⟨t4,hp4⟩
           have hb4 : Below w.heap.size w w4:=by
            refine Below.trans ?_ (t4.below (fun k hk=>by rw [ov_low hk];decide) ?_)
            ·(repeat' first|(with_reducible first|exact blR _ _|assumption|refine blD ?_|refine blN ?_ _)|((with_reducible first|refine blA ?_ ?_ _|refine blS ?_ ?_ _|refine blT (by assumption) ?_ ?_);focus (go_size;done)))
            ·go_size
           rcases hp4 with ⟨S2,hn4,rfl,st4⟩ | ⟨hn4,rfl⟩
           ·have hv:=hvt.out
            rw [vTail_go (by decide) (by rw [HAF.out];exact hn4)] at hv
            dsimp only at hv
            rw [hmax.out] at hv
            try clear hbl
            go_wp2_with fail
            go_roundg (gk - 1)
            case measure=>have:=HK.out;omega
            case rel=>exact ⟨t + 1,m,S2,by have:=HK.out;omega,by go_num,rfl,Lib.hid st4,Lib.hid hb4,Lib.hid (by rw [note_length hn4];exact hL1.out),Lib.hid (note_inB hn4 (by have h9:=hL1.out;omega) hB1.out (by rw [← HAF.out];exact HIN.out)),Lib.hid (by have:=HM.out;omega),Lib.hid hv⟩
           ·have hr : (0,2) = R:=by rw [← hvt.out,vTail_un (by decide) (by rw [HAF.out];exact hn4)]
            subst hr
            try clear hbl
            go_wp2_with fail
            go_ret2
            exact ⟨rfl,by (repeat' first|(with_reducible first|exact blR _ _|assumption|refine blD ?_|refine blN ?_ _)|((with_reducible first|refine blA ?_ ?_ _|refine blS ?_ ?_ _|refine blT (by assumption) ?_ ?_);focus (go_size;done)))⟩
          ·have hr : (0,2) = R:=by rw [← HVG3.out,vGo_un HE.out HCC.out rfl ⟨d1,d2⟩ (by rw [HAF.out];exact hn)]
           subst hr
           try clear hbl
           go_wp2_with fail
           go_ret2
           exact ⟨rfl,by (repeat' first|(with_reducible first|exact blR _ _|assumption|refine blD ?_|refine blN ?_ _)|((with_reducible first|refine blA ?_ ?_ _|refine blS ?_ ?_ _|refine blT (by assumption) ?_ ?_);focus (go_size;done)))⟩
        ·rcases hj with rfl | rfl
         ·have tok3:=trivial
          have hr : (0,2) = R:=by rw [← HVG3.out,vGo_out HE.out HCC.out rfl hb]
          subst hr
          have hb2 : a ≤ t ∨ (is.length : Int) < a:=by omega
          rcases hb2 with hb2 | hb2
          ·go_wp2_with fail
           go_quiet (fail)
           go_wp2_with fail
           go_ret2
           exact ⟨rfl,by (repeat' first|(with_reducible first|exact blR _ _|assumption|refine blD ?_|refine blN ?_ _)|((with_reducible first|refine blA ?_ ?_ _|refine blS ?_ ?_ _|refine blT (by assumption) ?_ ?_);focus (go_size;done)))⟩
          ·have hb3 : ¬ a ≤ t:=by omega
           go_wp2_with fail
           go_quiet (fail)
           go_wp2_with fail
           go_ret2
           exact ⟨rfl,by (repeat' first|(with_reducible first|exact blR _ _|assumption|refine blD ?_|refine blN ?_ _)|((with_reducible first|refine blA ?_ ?_ _|refine blS ?_ ?_ _|refine blT (by assumption) ?_ ?_);focus (go_size;done)))⟩
         ·have tok3:=trivial
          have hr : (0,2) = R:=by rw [← HVG3.out,vGo_out HE.out HCC.out rfl hb]
          subst hr
          have hb2 : a ≤ t ∨ (is.length : Int) < a:=by omega
          rcases hb2 with hb2 | hb2
          ·go_wp2_with fail
           go_quiet (fail)
           go_wp2_with fail
           go_ret2
           exact ⟨rfl,by (repeat' first|(with_reducible first|exact blR _ _|assumption|refine blD ?_|refine blN ?_ _)|((with_reducible first|refine blA ?_ ?_ _|refine blS ?_ ?_ _|refine blT (by assumption) ?_ ?_);focus (go_size;done)))⟩
          ·have hb3 : ¬ a ≤ t:=by omega
           go_wp2_with fail
           go_quiet (fail)
           go_wp2_with fail
           go_ret2
           exact ⟨rfl,by (repeat' first|(with_reducible first|exact blR _ _|assumption|refine blD ?_|refine blN ?_ _)|((with_reducible first|refine blA ?_ ?_ _|refine blS ?_ ?_ _|refine blT (by assumption) ?_ ?_);focus (go_size;done)))⟩
       ·have q1 : (op == 101) = false:=by rw [beq_eq_false_iff_ne];omega
        have q2 : (op == 102) = false:=by rw [beq_eq_false_iff_ne];omega
        have q3 : (op != 101) = true:=by rw [bne_iff_ne];omega
        have hne : op ≠ 101:=by omega
        have hvt : Hid (vTail is.length 0 op a ((pairs is).drop (t + 1)) t S m (x1,x2) = R):=Lib.hid (by
         rw [← HVG3.out,vGo_plain HE.out HCC.out (decide_eq_false hj)])
        have HNE:=Lib.hid hne
        clear hj hne
        go_wp2_with fail
        go_quiet (fail)
        go_wp2_with fail
        refine (HRE2.out _ _ (HLN.out) ?st).mono ?_
        case st=>exact ((ST1.out.alloc _).alloc _)
        rintro _ w4 ⟨t4,hp4⟩
        have hb4 : Below w.heap.size w w4:=by
         refine Below.trans ?_ (t4.below (fun k hk=>by rw [ov_low hk];decide) ?_)
         ·(repeat' first|(with_reducible first|exact blR _ _|assumption|refine blD ?_|refine blN ?_ _)|((with_reducible first|refine blA ?_ ?_ _|refine blS ?_ ?_ _|refine blT (by assumption) ?_ ?_);focus (go_size;done)))
         ·go_size
        rcases hp4 with ⟨S2,hn4,rfl,st4⟩ | ⟨hn4,rfl⟩
        ·have hv:=hvt.out
         rw [vTail_go HNE.out (by rw [HAF.out];exact hn4)] at hv
         dsimp only at hv
         rw [hmax.out] at hv
         try clear hbl
         go_wp2_with fail
         go_roundg (gk - 1)
         case measure=>have:=HK.out;omega
         case rel=>exact ⟨t + 1,m,S2,by have:=HK.out;omega,by go_num,rfl,Lib.hid st4,Lib.hid hb4,Lib.hid (by rw [note_length hn4];exact HLN.out),Lib.hid (note_inB hn4 (by have h9:=HLN.out;omega) (fun j y hy=>(HBD.out j y hy).up) (by rw [← HAF.out];exact HIN.out)),Lib.hid (by have:=HM.out;omega),Lib.hid hv⟩
        ·have hr : (0,2) = R:=by rw [← hvt.out,vTail_un HNE.out (by rw [HAF.out];exact hn4)]
         subst hr
         try clear hbl
         go_wp2_with fail
         go_ret2
         exact ⟨rfl,by (repeat' first|(with_reducible first|exact blR _ _|assumption|refine blD ?_|refine blN ?_ _)|((with_reducible first|refine blA ?_ ?_ _|refine blS ?_ ?_ _|refine blT (by assumption) ?_ ?_);focus (go_size;done)))⟩
     ·have hr : (0,2) = R:=by rw [← HVG3.out,vGo_bad e (fun hh=>hc (by rw [← HT.out] at hh;exact hh.2))]
      subst hr
      clear e HX
      by_cases h1 : off ≤ x1
      ·have h2 : x2 < ak:=by omega
       clear hc
       go_wp2_with fail
       go_ret2
       exact ⟨rfl,by (repeat' first|(with_reducible first|exact blR _ _|assumption|refine blD ?_|refine blN ?_ _)|((with_reducible first|refine blA ?_ ?_ _|refine blS ?_ ?_ _|refine blT (by assumption) ?_ ?_);focus (go_size;done)))⟩
      ·have h2 : x1 < off:=by omega
       clear hc h1
       go_wp2_with fail
       go_ret2
       exact ⟨rfl,by (repeat' first|(with_reducible first|exact blR _ _|assumption|refine blD ?_|refine blN ?_ _)|((with_reducible first|refine blA ?_ ?_ _|refine blS ?_ ?_ _|refine blT (by assumption) ?_ ?_);focus (go_size;done)))⟩
  ·obtain rfl : t = is.length:=by omega
   obtain ⟨s0,s1,s2⟩:=HST.out.cells (show is.length < S.length by have:=HLN.out;omega)
   have r1 : ∀ W,(binOp .neq 60 (.agg #[.bool (oB (S.getD is.length none)),.int .i64 (oH (S.getD is.length none)),.int .i64 (oE (S.getD is.length none))]) (.agg #[.bool true,.int .i64 1,.int .i64 0])).run Tryd.prog W = .ok (.bool (!(oB (S.getD is.length none) == true && (oH (S.getD is.length none) == 1 && oE (S.getD is.length none) == 0)))) W:=fun W=>neq_state _ _ _ _ _ _ W
   have hv:=HVG.out
   rw [pairs_end,vGo_end] at hv
   have HV2:=Lib.hid hv
   generalize (oB (S.getD is.length none) == true && (oH (S.getD is.length none) == 1 && oE (S.getD is.length none) == 0)) = nb at *
   generalize oB (S.getD is.length none) = p0 at *
   generalize oH (S.getD is.length none) = p1 at *
   generalize oE (S.getD is.length none) = p2 at *
   have hbl:=HBL.out
   have hle:=hbl.size
   clear hv HVG HV HBL HST HC
   cases nb with
   | false =>
    have hr:=HV2.out
    simp only [Bool.not_false] at r1
    rw [if_neg (by decide)] at hr
    subst hr
    clear HV2
    go_wp2_with fail
    go_ret2
    exact ⟨rfl,by (repeat' first|(with_reducible first|exact blR _ _|assumption|refine blD ?_|refine blN ?_ _)|((with_reducible first|refine blA ?_ ?_ _|refine blS ?_ ?_ _|refine blT (by assumption) ?_ ?_);focus (go_size;done)))⟩
   | true =>
    have hr:=HV2.out
    simp only [Bool.not_true] at r1
    rw [if_pos rfl] at hr
    subst hr
    clear HV2
    rcases Int.lt_or_le m 1 with hmx | hmx
    ·go_wp2_with fail
     go_ret2
     exact ⟨by rw [Int.max_eq_right (by omega)];rfl,by (repeat' first|(with_reducible first|exact blR _ _|assumption|refine blD ?_|refine blN ?_ _)|((with_reducible first|refine blA ?_ ?_ _|refine blS ?_ ?_ _|refine blT (by assumption) ?_ ?_);focus (go_size;done)))⟩
    ·go_wp2_with fail
     go_ret2
     exact ⟨by rw [Int.max_eq_left (by omega)];rfl,by (repeat' first|(with_reducible first|exact blR _ _|assumption|refine blD ?_|refine blN ?_ _)|((with_reducible first|refine blA ?_ ?_ _|refine blS ?_ ?_ _|refine blT (by assumption) ?_ ?_);focus (go_size;done)))⟩
end Go.Proofs.YtnhmplfonkjfoaaDoor

