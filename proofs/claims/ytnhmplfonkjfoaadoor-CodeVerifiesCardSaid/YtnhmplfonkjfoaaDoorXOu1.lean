/- What this law reaches beyond the common contracts, part 1. -/
import Derived.BigQuiet
import Derived.OwnWalk
import Derived.Test.YtnhmplfonkjfoaaDoorM1
set_option linter.unusedSimpArgs false
set_option linter.unusedVariables false


namespace Go.Proofs.YtnhmplfonkjfoaaDoor
open Go.RowKit

def tk (op a : Int) : Int × Int × Int × Int × Bool :=
 if a < 0 ∨ (op = 36 ∧ a < 1) ∨ (op = 25 ∧ 8 < a) then (0,0,0,0,false)
 else if ¬ (op = 25 ∨ op = 26 ∨ op = 27 ∨ op = 36) ∧ op ≠ 101 ∧ op ≠ 102 ∧ a ≠ 0 then (0,0,0,0,false)
 else if op = 25 ∨ op = 26 ∨ op = 27 ∨ op = 36 then (a,1,0,0,true)
 else if (1 ≤ op ∧ op ≤ 7) ∨ op = 29 then (0,1,0,0,true)
 else if op = 8 ∨ op = 24 ∨ op = 28 ∨ op = 37 then (1,1,0,0,true)
 else if 9 ≤ op ∧ op ≤ 20 then (2,1,0,0,true)
 else if op = 22 then (3,1,0,0,true)
 else if 30 ≤ op ∧ op ≤ 34 then (1,1,0,1,true)
 else if op = 35 then (2,1,0,1,true)
 else if op = 101 then (0,0,0,0,true)
 else if op = 102 then (1,0,0,0,true)
 else if op = 103 then (1,0,1,0,true)
 else if op = 104 then (0,0,-1,1,true)
 else (0,0,0,0,false)
set_option maxHeartbeats 400000 in
theorem rcounted_any (op : Int) (w : World) : Calls Tryd.prog 45 #[.int .i64 op] w fun e w'=>e = .returned (.bool (cnt op)) ∧ w = w':=by
 go_enter Tryd.func45,Tryd.ntmps45
 go_wp2
 all_goals go_ret
 all_goals refine ⟨ret_bool ?_,rfl⟩
 all_goals simp [cnt]
 all_goals (first | done | omega | (simp_all;done) | (simp_all;omega) | (rw [Bool.eq_iff_iff];simp_all;done) | (rw [Bool.eq_iff_iff];simp_all;omega))
set_option maxHeartbeats 4000000 in
theorem takes_any (op a : Int) (tx : ByteArray) (ng : Bool) (hi lo sc dy : Int) (w : World) : Calls Tryd.prog 23 #[.agg #[.int .i64 op,.int .i64 a,.string tx,.bool ng,.int .u64 hi,.int .u64 lo,.int .i64 sc,.int .i64 dy]] w fun e w'=>e = .returned (.tuple #[.int .i64 (tk op a).1,.int .i64 (tk op a).2.1,.int .i64 (tk op a).2.2.1,.int .i64 (tk op a).2.2.2.1,.bool (tk op a).2.2.2.2]) ∧ Below w.heap.size w w':=by
 rcases Int.lt_or_le a 0 with h0 | h0
 ·have tok:=trivial
  have e : tk op a = (0,0,0,0,false):=by
   unfold tk
   repeat (first | rw [if_pos (by omega)] | rw [if_neg (by omega)])
  have hc : cnt op = cnt op:=by unfold cnt;first | rfl | (rw [decide_eq_true_eq];omega) | (rw [decide_eq_false_iff_not];omega)
  rw [e]
  have HK:=Lib.hid (fun W=>rcounted_any op W)
  rw [hc] at HK
  clear e hc
  go_enter Tryd.func23,Tryd.ntmps23
  go_wp2_with (go_at_call 45;with_reducible refine (HK.out _).mono ?_;rintro _ _ ⟨rfl,rfl⟩)
  all_goals refine bodyPost_ret (by simp [results,Tryd.results23,go_sem, *];try rfl) rfl ?_
  all_goals first | exact ⟨rfl,by (repeat' first|(with_reducible first|exact blR _ _|assumption|refine blD ?_|refine blN ?_ _)|((with_reducible first|refine blA ?_ ?_ _|refine blS ?_ ?_ _|refine blT (by assumption) ?_ ?_);focus (go_size;done)))⟩ | (refine ⟨?_,by (repeat' first|(with_reducible first|exact blR _ _|assumption|refine blD ?_|refine blN ?_ _)|((with_reducible first|refine blA ?_ ?_ _|refine blS ?_ ?_ _|refine blT (by assumption) ?_ ?_);focus (go_size;done)))⟩;simp_all)
 by_cases c1 : op = 25
 ·subst c1
  by_cases c2 : 8 < a
  ·have tok:=trivial
   have e : tk 25 a = (0,0,0,0,false):=by
    unfold tk
    repeat (first | rw [if_pos (by omega)] | rw [if_neg (by omega)])
   have hc : cnt 25 = true:=by unfold cnt;first | rfl | (rw [decide_eq_true_eq];omega) | (rw [decide_eq_false_iff_not];omega)
   rw [e]
   have HK:=Lib.hid (fun W=>rcounted_any 25 W)
   rw [hc] at HK
   clear e hc
   go_enter Tryd.func23,Tryd.ntmps23
   go_wp2_with (go_at_call 45;with_reducible refine (HK.out _).mono ?_;rintro _ _ ⟨rfl,rfl⟩)
   all_goals refine bodyPost_ret (by simp [results,Tryd.results23,go_sem, *];try rfl) rfl ?_
   all_goals first | exact ⟨rfl,by (repeat' first|(with_reducible first|exact blR _ _|assumption|refine blD ?_|refine blN ?_ _)|((with_reducible first|refine blA ?_ ?_ _|refine blS ?_ ?_ _|refine blT (by assumption) ?_ ?_);focus (go_size;done)))⟩ | (refine ⟨?_,by (repeat' first|(with_reducible first|exact blR _ _|assumption|refine blD ?_|refine blN ?_ _)|((with_reducible first|refine blA ?_ ?_ _|refine blS ?_ ?_ _|refine blT (by assumption) ?_ ?_);focus (go_size;done)))⟩;simp_all)
  ·have c3 : a ≤ 8:=by omega
   have e : tk 25 a = (a,1,0,0,true):=by
    unfold tk
    repeat (first | rw [if_pos (by omega)] | rw [if_neg (by omega)])
   have hc : cnt 25 = true:=by unfold cnt;first | rfl | (rw [decide_eq_true_eq];omega) | (rw [decide_eq_false_iff_not];omega)
   rw [e]
   have HK:=Lib.hid (fun W=>rcounted_any 25 W)
   rw [hc] at HK
   clear e hc
   go_enter Tryd.func23,Tryd.ntmps23
   go_wp2_with (go_at_call 45;with_reducible refine (HK.out _).mono ?_;rintro _ _ ⟨rfl,rfl⟩)
   all_goals refine bodyPost_ret (by simp [results,Tryd.results23,go_sem, *];try rfl) rfl ?_
   all_goals first | exact ⟨rfl,by (repeat' first|(with_reducible first|exact blR _ _|assumption|refine blD ?_|refine blN ?_ _)|((with_reducible first|refine blA ?_ ?_ _|refine blS ?_ ?_ _|refine blT (by assumption) ?_ ?_);focus (go_size;done)))⟩ | (refine ⟨?_,by (repeat' first|(with_reducible first|exact blR _ _|assumption|refine blD ?_|refine blN ?_ _)|((with_reducible first|refine blA ?_ ?_ _|refine blS ?_ ?_ _|refine blT (by assumption) ?_ ?_);focus (go_size;done)))⟩;simp_all)
 by_cases c2 : op = 36
 ·subst c2
  by_cases c2 : a < 1
  ·have tok:=trivial
   have e : tk 36 a = (0,0,0,0,false):=by
    unfold tk
    repeat (first | rw [if_pos (by omega)] | rw [if_neg (by omega)])
   have hc : cnt 36 = true:=by unfold cnt;first | rfl | (rw [decide_eq_true_eq];omega) | (rw [decide_eq_false_iff_not];omega)
   rw [e]
   have HK:=Lib.hid (fun W=>rcounted_any 36 W)
   rw [hc] at HK
   clear e hc
   go_enter Tryd.func23,Tryd.ntmps23
   go_wp2_with (go_at_call 45;with_reducible refine (HK.out _).mono ?_;rintro _ _ ⟨rfl,rfl⟩)
   all_goals refine bodyPost_ret (by simp [results,Tryd.results23,go_sem, *];try rfl) rfl ?_
   all_goals first | exact ⟨rfl,by (repeat' first|(with_reducible first|exact blR _ _|assumption|refine blD ?_|refine blN ?_ _)|((with_reducible first|refine blA ?_ ?_ _|refine blS ?_ ?_ _|refine blT (by assumption) ?_ ?_);focus (go_size;done)))⟩ | (refine ⟨?_,by (repeat' first|(with_reducible first|exact blR _ _|assumption|refine blD ?_|refine blN ?_ _)|((with_reducible first|refine blA ?_ ?_ _|refine blS ?_ ?_ _|refine blT (by assumption) ?_ ?_);focus (go_size;done)))⟩;simp_all)
  ·have c3 : 1 ≤ a:=by omega
   have e : tk 36 a = (a,1,0,0,true):=by
    unfold tk
    repeat (first | rw [if_pos (by omega)] | rw [if_neg (by omega)])
   have hc : cnt 36 = true:=by unfold cnt;first | rfl | (rw [decide_eq_true_eq];omega) | (rw [decide_eq_false_iff_not];omega)
   rw [e]
   have HK:=Lib.hid (fun W=>rcounted_any 36 W)
   rw [hc] at HK
   clear e hc
   go_enter Tryd.func23,Tryd.ntmps23
   go_wp2_with (go_at_call 45;with_reducible refine (HK.out _).mono ?_;rintro _ _ ⟨rfl,rfl⟩)
   all_goals refine bodyPost_ret (by simp [results,Tryd.results23,go_sem, *];try rfl) rfl ?_
   all_goals first | exact ⟨rfl,by (repeat' first|(with_reducible first|exact blR _ _|assumption|refine blD ?_|refine blN ?_ _)|((with_reducible first|refine blA ?_ ?_ _|refine blS ?_ ?_ _|refine blT (by assumption) ?_ ?_);focus (go_size;done)))⟩ | (refine ⟨?_,by (repeat' first|(with_reducible first|exact blR _ _|assumption|refine blD ?_|refine blN ?_ _)|((with_reducible first|refine blA ?_ ?_ _|refine blS ?_ ?_ _|refine blT (by assumption) ?_ ?_);focus (go_size;done)))⟩;simp_all)
 by_cases c3 : op = 26
 ·subst c3
  have e : tk 26 a = (a,1,0,0,true):=by
   unfold tk
   repeat (first | rw [if_pos (by omega)] | rw [if_neg (by omega)])
  have hc : cnt 26 = true:=by unfold cnt;first | rfl | (rw [decide_eq_true_eq];omega) | (rw [decide_eq_false_iff_not];omega)
  rw [e]
  have HK:=Lib.hid (fun W=>rcounted_any 26 W)
  rw [hc] at HK
  clear e hc
  go_enter Tryd.func23,Tryd.ntmps23
  go_wp2_with (go_at_call 45;with_reducible refine (HK.out _).mono ?_;rintro _ _ ⟨rfl,rfl⟩)
  all_goals refine bodyPost_ret (by simp [results,Tryd.results23,go_sem, *];try rfl) rfl ?_
  all_goals first | exact ⟨rfl,by (repeat' first|(with_reducible first|exact blR _ _|assumption|refine blD ?_|refine blN ?_ _)|((with_reducible first|refine blA ?_ ?_ _|refine blS ?_ ?_ _|refine blT (by assumption) ?_ ?_);focus (go_size;done)))⟩ | (refine ⟨?_,by (repeat' first|(with_reducible first|exact blR _ _|assumption|refine blD ?_|refine blN ?_ _)|((with_reducible first|refine blA ?_ ?_ _|refine blS ?_ ?_ _|refine blT (by assumption) ?_ ?_);focus (go_size;done)))⟩;simp_all)
 by_cases c4 : op = 27
 ·subst c4
  have e : tk 27 a = (a,1,0,0,true):=by
   unfold tk
   repeat (first | rw [if_pos (by omega)] | rw [if_neg (by omega)])
  have hc : cnt 27 = true:=by unfold cnt;first | rfl | (rw [decide_eq_true_eq];omega) | (rw [decide_eq_false_iff_not];omega)
  rw [e]
  have HK:=Lib.hid (fun W=>rcounted_any 27 W)
  rw [hc] at HK
  clear e hc
  go_enter Tryd.func23,Tryd.ntmps23
  go_wp2_with (go_at_call 45;with_reducible refine (HK.out _).mono ?_;rintro _ _ ⟨rfl,rfl⟩)
  all_goals refine bodyPost_ret (by simp [results,Tryd.results23,go_sem, *];try rfl) rfl ?_
  all_goals first | exact ⟨rfl,by (repeat' first|(with_reducible first|exact blR _ _|assumption|refine blD ?_|refine blN ?_ _)|((with_reducible first|refine blA ?_ ?_ _|refine blS ?_ ?_ _|refine blT (by assumption) ?_ ?_);focus (go_size;done)))⟩ | (refine ⟨?_,by (repeat' first|(with_reducible first|exact blR _ _|assumption|refine blD ?_|refine blN ?_ _)|((with_reducible first|refine blA ?_ ?_ _|refine blS ?_ ?_ _|refine blT (by assumption) ?_ ?_);focus (go_size;done)))⟩;simp_all)
 by_cases c5 : op = 101
 ·subst c5
  have e : tk 101 a = (0,0,0,0,true):=by
   unfold tk
   repeat (first | rw [if_pos (by omega)] | rw [if_neg (by omega)])
  have hc : cnt 101 = false:=by unfold cnt;first | rfl | (rw [decide_eq_true_eq];omega) | (rw [decide_eq_false_iff_not];omega)
  rw [e]
  have HK:=Lib.hid (fun W=>rcounted_any 101 W)
  rw [hc] at HK
  clear e hc
  go_enter Tryd.func23,Tryd.ntmps23
  go_wp2_with (go_at_call 45;with_reducible refine (HK.out _).mono ?_;rintro _ _ ⟨rfl,rfl⟩)
  all_goals refine bodyPost_ret (by simp [results,Tryd.results23,go_sem, *];try rfl) rfl ?_
  all_goals first | exact ⟨rfl,by (repeat' first|(with_reducible first|exact blR _ _|assumption|refine blD ?_|refine blN ?_ _)|((with_reducible first|refine blA ?_ ?_ _|refine blS ?_ ?_ _|refine blT (by assumption) ?_ ?_);focus (go_size;done)))⟩ | (refine ⟨?_,by (repeat' first|(with_reducible first|exact blR _ _|assumption|refine blD ?_|refine blN ?_ _)|((with_reducible first|refine blA ?_ ?_ _|refine blS ?_ ?_ _|refine blT (by assumption) ?_ ?_);focus (go_size;done)))⟩;simp_all)
 by_cases c6 : op = 102
 ·subst c6
  have e : tk 102 a = (1,0,0,0,true):=by
   unfold tk
   repeat (first | rw [if_pos (by omega)] | rw [if_neg (by omega)])
  have hc : cnt 102 = false:=by unfold cnt;first | rfl | (rw [decide_eq_true_eq];omega) | (rw [decide_eq_false_iff_not];omega)
  rw [e]
  have HK:=Lib.hid (fun W=>rcounted_any 102 W)
  rw [hc] at HK
  clear e hc
  go_enter Tryd.func23,Tryd.ntmps23
  go_wp2_with (go_at_call 45;with_reducible refine (HK.out _).mono ?_;rintro _ _ ⟨rfl,rfl⟩)
  all_goals refine bodyPost_ret (by simp [results,Tryd.results23,go_sem, *];try rfl) rfl ?_
  all_goals first | exact ⟨rfl,by (repeat' first|(with_reducible first|exact blR _ _|assumption|refine blD ?_|refine blN ?_ _)|((with_reducible first|refine blA ?_ ?_ _|refine blS ?_ ?_ _|refine blT (by assumption) ?_ ?_);focus (go_size;done)))⟩ | (refine ⟨?_,by (repeat' first|(with_reducible first|exact blR _ _|assumption|refine blD ?_|refine blN ?_ _)|((with_reducible first|refine blA ?_ ?_ _|refine blS ?_ ?_ _|refine blT (by assumption) ?_ ?_);focus (go_size;done)))⟩;simp_all)
 by_cases c7 : a ≠ 0
 ·have tok:=trivial
  have q25 : (op == 25) = false:=by rw [beq_eq_false_iff_ne];omega
  have r25 : (op != 25) = true:=by rw [bne_iff_ne];omega
  have q36 : (op == 36) = false:=by rw [beq_eq_false_iff_ne];omega
  have r36 : (op != 36) = true:=by rw [bne_iff_ne];omega
  have q101 : (op == 101) = false:=by rw [beq_eq_false_iff_ne];omega
  have r101 : (op != 101) = true:=by rw [bne_iff_ne];omega
  have q102 : (op == 102) = false:=by rw [beq_eq_false_iff_ne];omega
  have r102 : (op != 102) = true:=by rw [bne_iff_ne];omega
  have ra : (a != 0) = true:=by rw [bne_iff_ne];omega
  have e : tk op a = (0,0,0,0,false):=by
   unfold tk
   repeat (first | rw [if_pos (by omega)] | rw [if_neg (by omega)])
  have hc : cnt op = false:=by unfold cnt;first | rfl | (rw [decide_eq_true_eq];omega) | (rw [decide_eq_false_iff_not];omega)
  rw [e]
  have HK:=Lib.hid (fun W=>rcounted_any op W)
  rw [hc] at HK
  clear e hc
  go_enter Tryd.func23,Tryd.ntmps23
  go_wp2_with (go_at_call 45;with_reducible refine (HK.out _).mono ?_;rintro _ _ ⟨rfl,rfl⟩)
  all_goals refine bodyPost_ret (by simp [results,Tryd.results23,go_sem, *];try rfl) rfl ?_
  all_goals first | exact ⟨rfl,by (repeat' first|(with_reducible first|exact blR _ _|assumption|refine blD ?_|refine blN ?_ _)|((with_reducible first|refine blA ?_ ?_ _|refine blS ?_ ?_ _|refine blT (by assumption) ?_ ?_);focus (go_size;done)))⟩ | (refine ⟨?_,by (repeat' first|(with_reducible first|exact blR _ _|assumption|refine blD ?_|refine blN ?_ _)|((with_reducible first|refine blA ?_ ?_ _|refine blS ?_ ?_ _|refine blT (by assumption) ?_ ?_);focus (go_size;done)))⟩;simp_all)
 obtain rfl : a = 0:=by omega
 by_cases d0 : op = 29
 ·subst d0
  have e : tk 29 0 = (0,1,0,0,true):=by
   unfold tk
   repeat (first | rw [if_pos (by omega)] | rw [if_neg (by omega)])
  have hc : cnt 29 = false:=by unfold cnt;first | rfl | (rw [decide_eq_true_eq];omega) | (rw [decide_eq_false_iff_not];omega)
  rw [e]
  have HK:=Lib.hid (fun W=>rcounted_any 29 W)
  rw [hc] at HK
  clear e hc
  go_enter Tryd.func23,Tryd.ntmps23
  go_wp2_with (go_at_call 45;with_reducible refine (HK.out _).mono ?_;rintro _ _ ⟨rfl,rfl⟩)
  all_goals refine bodyPost_ret (by simp [results,Tryd.results23,go_sem, *];try rfl) rfl ?_
  all_goals first | exact ⟨rfl,by (repeat' first|(with_reducible first|exact blR _ _|assumption|refine blD ?_|refine blN ?_ _)|((with_reducible first|refine blA ?_ ?_ _|refine blS ?_ ?_ _|refine blT (by assumption) ?_ ?_);focus (go_size;done)))⟩ | (refine ⟨?_,by (repeat' first|(with_reducible first|exact blR _ _|assumption|refine blD ?_|refine blN ?_ _)|((with_reducible first|refine blA ?_ ?_ _|refine blS ?_ ?_ _|refine blT (by assumption) ?_ ?_);focus (go_size;done)))⟩;simp_all)
 by_cases d1 : 1 ≤ op ∧ op ≤ 7
 ·obtain ⟨da,db⟩:=d1
  have q25 : (op == 25) = false:=by rw [beq_eq_false_iff_ne];omega
  have r25 : (op != 25) = true:=by rw [bne_iff_ne];omega
  have q36 : (op == 36) = false:=by rw [beq_eq_false_iff_ne];omega
  have r36 : (op != 36) = true:=by rw [bne_iff_ne];omega
  have q101 : (op == 101) = false:=by rw [beq_eq_false_iff_ne];omega
  have r101 : (op != 101) = true:=by rw [bne_iff_ne];omega
  have q102 : (op == 102) = false:=by rw [beq_eq_false_iff_ne];omega
  have r102 : (op != 102) = true:=by rw [bne_iff_ne];omega
  have q26 : (op == 26) = false:=by rw [beq_eq_false_iff_ne];omega
  have q27 : (op == 27) = false:=by rw [beq_eq_false_iff_ne];omega
  have q8 : (op == 8) = false:=by rw [beq_eq_false_iff_ne];omega
  have q24 : (op == 24) = false:=by rw [beq_eq_false_iff_ne];omega
  have q28 : (op == 28) = false:=by rw [beq_eq_false_iff_ne];omega
  have q37 : (op == 37) = false:=by rw [beq_eq_false_iff_ne];omega
  have q29 : (op == 29) = false:=by rw [beq_eq_false_iff_ne];omega
  have q22 : (op == 22) = false:=by rw [beq_eq_false_iff_ne];omega
  have q35 : (op == 35) = false:=by rw [beq_eq_false_iff_ne];omega
  have q103 : (op == 103) = false:=by rw [beq_eq_false_iff_ne];omega
  have q104 : (op == 104) = false:=by rw [beq_eq_false_iff_ne];omega
  have e : tk op 0 = (0,1,0,0,true):=by
   unfold tk
   repeat (first | rw [if_pos (by omega)] | rw [if_neg (by omega)])
  have hc : cnt op = false:=by unfold cnt;first | rfl | (rw [decide_eq_true_eq];omega) | (rw [decide_eq_false_iff_not];omega)
  rw [e]
  have HK:=Lib.hid (fun W=>rcounted_any op W)
  rw [hc] at HK
  clear e hc
  go_enter Tryd.func23,Tryd.ntmps23
  go_wp2_with (go_at_call 45;with_reducible refine (HK.out _).mono ?_;rintro _ _ ⟨rfl,rfl⟩)
  all_goals refine bodyPost_ret (by simp [results,Tryd.results23,go_sem, *];try rfl) rfl ?_
  all_goals first | exact ⟨rfl,by (repeat' first|(with_reducible first|exact blR _ _|assumption|refine blD ?_|refine blN ?_ _)|((with_reducible first|refine blA ?_ ?_ _|refine blS ?_ ?_ _|refine blT (by assumption) ?_ ?_);focus (go_size;done)))⟩ | (refine ⟨?_,by (repeat' first|(with_reducible first|exact blR _ _|assumption|refine blD ?_|refine blN ?_ _)|((with_reducible first|refine blA ?_ ?_ _|refine blS ?_ ?_ _|refine blT (by assumption) ?_ ?_);focus (go_size;done)))⟩;simp_all)
 by_cases d2 : op = 8
 ·subst d2
  have e : tk 8 0 = (1,1,0,0,true):=by
   unfold tk
   repeat (first | rw [if_pos (by omega)] | rw [if_neg (by omega)])
  have hc : cnt 8 = false:=by unfold cnt;first | rfl | (rw [decide_eq_true_eq];omega) | (rw [decide_eq_false_iff_not];omega)
  rw [e]
  have HK:=Lib.hid (fun W=>rcounted_any 8 W)
  rw [hc] at HK
  clear e hc
  go_enter Tryd.func23,Tryd.ntmps23
  go_wp2_with (go_at_call 45;with_reducible refine (HK.out _).mono ?_;rintro _ _ ⟨rfl,rfl⟩)
  all_goals refine bodyPost_ret (by simp [results,Tryd.results23,go_sem, *];try rfl) rfl ?_
  all_goals first | exact ⟨rfl,by (repeat' first|(with_reducible first|exact blR _ _|assumption|refine blD ?_|refine blN ?_ _)|((with_reducible first|refine blA ?_ ?_ _|refine blS ?_ ?_ _|refine blT (by assumption) ?_ ?_);focus (go_size;done)))⟩ | (refine ⟨?_,by (repeat' first|(with_reducible first|exact blR _ _|assumption|refine blD ?_|refine blN ?_ _)|((with_reducible first|refine blA ?_ ?_ _|refine blS ?_ ?_ _|refine blT (by assumption) ?_ ?_);focus (go_size;done)))⟩;simp_all)
 by_cases d3 : op = 24
 ·subst d3
  have e : tk 24 0 = (1,1,0,0,true):=by
   unfold tk
   repeat (first | rw [if_pos (by omega)] | rw [if_neg (by omega)])
  have hc : cnt 24 = false:=by unfold cnt;first | rfl | (rw [decide_eq_true_eq];omega) | (rw [decide_eq_false_iff_not];omega)
  rw [e]
  have HK:=Lib.hid (fun W=>rcounted_any 24 W)
  rw [hc] at HK
  clear e hc
  go_enter Tryd.func23,Tryd.ntmps23
  go_wp2_with (go_at_call 45;with_reducible refine (HK.out _).mono ?_;rintro _ _ ⟨rfl,rfl⟩)
  all_goals refine bodyPost_ret (by simp [results,Tryd.results23,go_sem, *];try rfl) rfl ?_
  all_goals first | exact ⟨rfl,by (repeat' first|(with_reducible first|exact blR _ _|assumption|refine blD ?_|refine blN ?_ _)|((with_reducible first|refine blA ?_ ?_ _|refine blS ?_ ?_ _|refine blT (by assumption) ?_ ?_);focus (go_size;done)))⟩ | (refine ⟨?_,by (repeat' first|(with_reducible first|exact blR _ _|assumption|refine blD ?_|refine blN ?_ _)|((with_reducible first|refine blA ?_ ?_ _|refine blS ?_ ?_ _|refine blT (by assumption) ?_ ?_);focus (go_size;done)))⟩;simp_all)
 by_cases d4 : op = 28
 ·subst d4
  have e : tk 28 0 = (1,1,0,0,true):=by
   unfold tk
   repeat (first | rw [if_pos (by omega)] | rw [if_neg (by omega)])
  have hc : cnt 28 = false:=by unfold cnt;first | rfl | (rw [decide_eq_true_eq];omega) | (rw [decide_eq_false_iff_not];omega)
  rw [e]
  have HK:=Lib.hid (fun W=>rcounted_any 28 W)
  rw [hc] at HK
  clear e hc
  go_enter Tryd.func23,Tryd.ntmps23
  go_wp2_with (go_at_call 45;with_reducible refine (HK.out _).mono ?_;rintro _ _ ⟨rfl,rfl⟩)
  all_goals refine bodyPost_ret (by simp [results,Tryd.results23,go_sem, *];try rfl) rfl ?_
  all_goals first | exact ⟨rfl,by (repeat' first|(with_reducible first|exact blR _ _|assumption|refine blD ?_|refine blN ?_ _)|((with_reducible first|refine blA ?_ ?_ _|refine blS ?_ ?_ _|refine blT (by assumption) ?_ ?_);focus (go_size;done)))⟩ | (refine ⟨?_,by (repeat' first|(with_reducible first|exact blR _ _|assumption|refine blD ?_|refine blN ?_ _)|((with_reducible first|refine blA ?_ ?_ _|refine blS ?_ ?_ _|refine blT (by assumption) ?_ ?_);focus (go_size;done)))⟩;simp_all)
 by_cases d5 : op = 37
 ·subst d5
  have e : tk 37 0 = (1,1,0,0,true):=by
   unfold tk
   repeat (first | rw [if_pos (by omega)] | rw [if_neg (by omega)])
  have hc : cnt 37 = false:=by unfold cnt;first | rfl | (rw [decide_eq_true_eq];omega) | (rw [decide_eq_false_iff_not];omega)
  rw [e]
  have HK:=Lib.hid (fun W=>rcounted_any 37 W)
  rw [hc] at HK
  clear e hc
  go_enter Tryd.func23,Tryd.ntmps23
  go_wp2_with (go_at_call 45;with_reducible refine (HK.out _).mono ?_;rintro _ _ ⟨rfl,rfl⟩)
  all_goals refine bodyPost_ret (by simp [results,Tryd.results23,go_sem, *];try rfl) rfl ?_
  all_goals first | exact ⟨rfl,by (repeat' first|(with_reducible first|exact blR _ _|assumption|refine blD ?_|refine blN ?_ _)|((with_reducible first|refine blA ?_ ?_ _|refine blS ?_ ?_ _|refine blT (by assumption) ?_ ?_);focus (go_size;done)))⟩ | (refine ⟨?_,by (repeat' first|(with_reducible first|exact blR _ _|assumption|refine blD ?_|refine blN ?_ _)|((with_reducible first|refine blA ?_ ?_ _|refine blS ?_ ?_ _|refine blT (by assumption) ?_ ?_);focus (go_size;done)))⟩;simp_all)
 by_cases d6 : 9 ≤ op ∧ op ≤ 20
 ·obtain ⟨da,db⟩:=d6
  have q25 : (op == 25) = false:=by rw [beq_eq_false_iff_ne];omega
  have r25 : (op != 25) = true:=by rw [bne_iff_ne];omega
  have q36 : (op == 36) = false:=by rw [beq_eq_false_iff_ne];omega
  have r36 : (op != 36) = true:=by rw [bne_iff_ne];omega
  have q101 : (op == 101) = false:=by rw [beq_eq_false_iff_ne];omega
  have r101 : (op != 101) = true:=by rw [bne_iff_ne];omega
  have q102 : (op == 102) = false:=by rw [beq_eq_false_iff_ne];omega
  have r102 : (op != 102) = true:=by rw [bne_iff_ne];omega
  have q26 : (op == 26) = false:=by rw [beq_eq_false_iff_ne];omega
  have q27 : (op == 27) = false:=by rw [beq_eq_false_iff_ne];omega
  have q8 : (op == 8) = false:=by rw [beq_eq_false_iff_ne];omega
  have q24 : (op == 24) = false:=by rw [beq_eq_false_iff_ne];omega
  have q28 : (op == 28) = false:=by rw [beq_eq_false_iff_ne];omega
  have q37 : (op == 37) = false:=by rw [beq_eq_false_iff_ne];omega
  have q29 : (op == 29) = false:=by rw [beq_eq_false_iff_ne];omega
  have q22 : (op == 22) = false:=by rw [beq_eq_false_iff_ne];omega
  have q35 : (op == 35) = false:=by rw [beq_eq_false_iff_ne];omega
  have q103 : (op == 103) = false:=by rw [beq_eq_false_iff_ne];omega
  have q104 : (op == 104) = false:=by rw [beq_eq_false_iff_ne];omega
  have e : tk op 0 = (2,1,0,0,true):=by
   unfold tk
   repeat (first | rw [if_pos (by omega)] | rw [if_neg (by omega)])
  have hc : cnt op = false:=by unfold cnt;first | rfl | (rw [decide_eq_true_eq];omega) | (rw [decide_eq_false_iff_not];omega)
  rw [e]
  have HK:=Lib.hid (fun W=>rcounted_any op W)
  rw [hc] at HK
  clear e hc
  go_enter Tryd.func23,Tryd.ntmps23
  go_wp2_with (go_at_call 45;with_reducible refine (HK.out _).mono ?_;rintro _ _ ⟨rfl,rfl⟩)
  all_goals refine bodyPost_ret (by simp [results,Tryd.results23,go_sem, *];try rfl) rfl ?_
  all_goals first | exact ⟨rfl,by (repeat' first|(with_reducible first|exact blR _ _|assumption|refine blD ?_|refine blN ?_ _)|((with_reducible first|refine blA ?_ ?_ _|refine blS ?_ ?_ _|refine blT (by assumption) ?_ ?_);focus (go_size;done)))⟩ | (refine ⟨?_,by (repeat' first|(with_reducible first|exact blR _ _|assumption|refine blD ?_|refine blN ?_ _)|((with_reducible first|refine blA ?_ ?_ _|refine blS ?_ ?_ _|refine blT (by assumption) ?_ ?_);focus (go_size;done)))⟩;simp_all)
 by_cases d7 : op = 22
 ·subst d7
  have e : tk 22 0 = (3,1,0,0,true):=by
   unfold tk
   repeat (first | rw [if_pos (by omega)] | rw [if_neg (by omega)])
  have hc : cnt 22 = false:=by unfold cnt;first | rfl | (rw [decide_eq_true_eq];omega) | (rw [decide_eq_false_iff_not];omega)
  rw [e]
  have HK:=Lib.hid (fun W=>rcounted_any 22 W)
  rw [hc] at HK
  clear e hc
  go_enter Tryd.func23,Tryd.ntmps23
  go_wp2_with (go_at_call 45;with_reducible refine (HK.out _).mono ?_;rintro _ _ ⟨rfl,rfl⟩)
  all_goals refine bodyPost_ret (by simp [results,Tryd.results23,go_sem, *];try rfl) rfl ?_
  all_goals first | exact ⟨rfl,by (repeat' first|(with_reducible first|exact blR _ _|assumption|refine blD ?_|refine blN ?_ _)|((with_reducible first|refine blA ?_ ?_ _|refine blS ?_ ?_ _|refine blT (by assumption) ?_ ?_);focus (go_size;done)))⟩ | (refine ⟨?_,by (repeat' first|(with_reducible first|exact blR _ _|assumption|refine blD ?_|refine blN ?_ _)|((with_reducible first|refine blA ?_ ?_ _|refine blS ?_ ?_ _|refine blT (by assumption) ?_ ?_);focus (go_size;done)))⟩;simp_all)
 by_cases d8 : 30 ≤ op ∧ op ≤ 34
 ·obtain ⟨da,db⟩:=d8
  have q25 : (op == 25) = false:=by rw [beq_eq_false_iff_ne];omega
  have r25 : (op != 25) = true:=by rw [bne_iff_ne];omega
  have q36 : (op == 36) = false:=by rw [beq_eq_false_iff_ne];omega
  have r36 : (op != 36) = true:=by rw [bne_iff_ne];omega
  have q101 : (op == 101) = false:=by rw [beq_eq_false_iff_ne];omega
  have r101 : (op != 101) = true:=by rw [bne_iff_ne];omega
  have q102 : (op == 102) = false:=by rw [beq_eq_false_iff_ne];omega
  have r102 : (op != 102) = true:=by rw [bne_iff_ne];omega
  have q26 : (op == 26) = false:=by rw [beq_eq_false_iff_ne];omega
  have q27 : (op == 27) = false:=by rw [beq_eq_false_iff_ne];omega
  have q8 : (op == 8) = false:=by rw [beq_eq_false_iff_ne];omega
  have q24 : (op == 24) = false:=by rw [beq_eq_false_iff_ne];omega
  have q28 : (op == 28) = false:=by rw [beq_eq_false_iff_ne];omega
  have q37 : (op == 37) = false:=by rw [beq_eq_false_iff_ne];omega
  have q29 : (op == 29) = false:=by rw [beq_eq_false_iff_ne];omega
  have q22 : (op == 22) = false:=by rw [beq_eq_false_iff_ne];omega
  have q35 : (op == 35) = false:=by rw [beq_eq_false_iff_ne];omega
  have q103 : (op == 103) = false:=by rw [beq_eq_false_iff_ne];omega
  have q104 : (op == 104) = false:=by rw [beq_eq_false_iff_ne];omega
  have e : tk op 0 = (1,1,0,1,true):=by
   unfold tk
   repeat (first | rw [if_pos (by omega)] | rw [if_neg (by omega)])
  have hc : cnt op = false:=by unfold cnt;first | rfl | (rw [decide_eq_true_eq];omega) | (rw [decide_eq_false_iff_not];omega)
  rw [e]
  have HK:=Lib.hid (fun W=>rcounted_any op W)
  rw [hc] at HK
  clear e hc
  go_enter Tryd.func23,Tryd.ntmps23
  go_wp2_with (go_at_call 45;with_reducible refine (HK.out _).mono ?_;rintro _ _ ⟨rfl,rfl⟩)
  all_goals refine bodyPost_ret (by simp [results,Tryd.results23,go_sem, *];try rfl) rfl ?_
  all_goals first | exact ⟨rfl,by (repeat' first|(with_reducible first|exact blR _ _|assumption|refine blD ?_|refine blN ?_ _)|((with_reducible first|refine blA ?_ ?_ _|refine blS ?_ ?_ _|refine blT (by assumption) ?_ ?_);focus (go_size;done)))⟩ | (refine ⟨?_,by (repeat' first|(with_reducible first|exact blR _ _|assumption|refine blD ?_|refine blN ?_ _)|((with_reducible first|refine blA ?_ ?_ _|refine blS ?_ ?_ _|refine blT (by assumption) ?_ ?_);focus (go_size;done)))⟩;simp_all)
 by_cases d9 : op = 35
 ·subst d9
  have e : tk 35 0 = (2,1,0,1,true):=by
   unfold tk
   repeat (first | rw [if_pos (by omega)] | rw [if_neg (by omega)])
  have hc : cnt 35 = false:=by unfold cnt;first | rfl | (rw [decide_eq_true_eq];omega) | (rw [decide_eq_false_iff_not];omega)
  rw [e]
  have HK:=Lib.hid (fun W=>rcounted_any 35 W)
  rw [hc] at HK
  clear e hc
  go_enter Tryd.func23,Tryd.ntmps23
  go_wp2_with (go_at_call 45;with_reducible refine (HK.out _).mono ?_;rintro _ _ ⟨rfl,rfl⟩)
  all_goals refine bodyPost_ret (by simp [results,Tryd.results23,go_sem, *];try rfl) rfl ?_
  all_goals first | exact ⟨rfl,by (repeat' first|(with_reducible first|exact blR _ _|assumption|refine blD ?_|refine blN ?_ _)|((with_reducible first|refine blA ?_ ?_ _|refine blS ?_ ?_ _|refine blT (by assumption) ?_ ?_);focus (go_size;done)))⟩ | (refine ⟨?_,by (repeat' first|(with_reducible first|exact blR _ _|assumption|refine blD ?_|refine blN ?_ _)|((with_reducible first|refine blA ?_ ?_ _|refine blS ?_ ?_ _|refine blT (by assumption) ?_ ?_);focus (go_size;done)))⟩;simp_all)
 by_cases d10 : op = 103
 ·subst d10
  have e : tk 103 0 = (1,0,1,0,true):=by
   unfold tk
   repeat (first | rw [if_pos (by omega)] | rw [if_neg (by omega)])
  have hc : cnt 103 = false:=by unfold cnt;first | rfl | (rw [decide_eq_true_eq];omega) | (rw [decide_eq_false_iff_not];omega)
  rw [e]
  have HK:=Lib.hid (fun W=>rcounted_any 103 W)
  rw [hc] at HK
  clear e hc
  go_enter Tryd.func23,Tryd.ntmps23
  go_wp2_with (go_at_call 45;with_reducible refine (HK.out _).mono ?_;rintro _ _ ⟨rfl,rfl⟩)
  all_goals refine bodyPost_ret (by simp [results,Tryd.results23,go_sem, *];try rfl) rfl ?_
  all_goals first | exact ⟨rfl,by (repeat' first|(with_reducible first|exact blR _ _|assumption|refine blD ?_|refine blN ?_ _)|((with_reducible first|refine blA ?_ ?_ _|refine blS ?_ ?_ _|refine blT (by assumption) ?_ ?_);focus (go_size;done)))⟩ | (refine ⟨?_,by (repeat' first|(with_reducible first|exact blR _ _|assumption|refine blD ?_|refine blN ?_ _)|((with_reducible first|refine blA ?_ ?_ _|refine blS ?_ ?_ _|refine blT (by assumption) ?_ ?_);focus (go_size;done)))⟩;simp_all)
 by_cases d11 : op = 104
 ·subst d11
  have e : tk 104 0 = (0,0,-1,1,true):=by
   unfold tk
   repeat (first | rw [if_pos (by omega)] | rw [if_neg (by omega)])
  have hc : cnt 104 = false:=by unfold cnt;first | rfl | (rw [decide_eq_true_eq];omega) | (rw [decide_eq_false_iff_not];omega)
  rw [e]
  have HK:=Lib.hid (fun W=>rcounted_any 104 W)
  rw [hc] at HK
  clear e hc
  go_enter Tryd.func23,Tryd.ntmps23
  go_wp2_with (go_at_call 45;with_reducible refine (HK.out _).mono ?_;rintro _ _ ⟨rfl,rfl⟩)
  all_goals refine bodyPost_ret (by simp [results,Tryd.results23,go_sem, *];try rfl) rfl ?_
  all_goals first | exact ⟨rfl,by (repeat' first|(with_reducible first|exact blR _ _|assumption|refine blD ?_|refine blN ?_ _)|((with_reducible first|refine blA ?_ ?_ _|refine blS ?_ ?_ _|refine blT (by assumption) ?_ ?_);focus (go_size;done)))⟩ | (refine ⟨?_,by (repeat' first|(with_reducible first|exact blR _ _|assumption|refine blD ?_|refine blN ?_ _)|((with_reducible first|refine blA ?_ ?_ _|refine blS ?_ ?_ _|refine blT (by assumption) ?_ ?_);focus (go_size;done)))⟩;simp_all)
 by_cases d12 : op = 21
 ·subst d12
  have e : tk 21 0 = (0,0,0,0,false):=by
   unfold tk
   repeat (first | rw [if_pos (by omega)] | rw [if_neg (by omega)])
  have hc : cnt 21 = false:=by unfold cnt;first | rfl | (rw [decide_eq_true_eq];omega) | (rw [decide_eq_false_iff_not];omega)
  rw [e]
  have HK:=Lib.hid (fun W=>rcounted_any 21 W)
  rw [hc] at HK
  clear e hc
  go_enter Tryd.func23,Tryd.ntmps23
  go_wp2_with (go_at_call 45;with_reducible refine (HK.out _).mono ?_;rintro _ _ ⟨rfl,rfl⟩)
  all_goals refine bodyPost_ret (by simp [results,Tryd.results23,go_sem, *];try rfl) rfl ?_
  all_goals first | exact ⟨rfl,by (repeat' first|(with_reducible first|exact blR _ _|assumption|refine blD ?_|refine blN ?_ _)|((with_reducible first|refine blA ?_ ?_ _|refine blS ?_ ?_ _|refine blT (by assumption) ?_ ?_);focus (go_size;done)))⟩ | (refine ⟨?_,by (repeat' first|(with_reducible first|exact blR _ _|assumption|refine blD ?_|refine blN ?_ _)|((with_reducible first|refine blA ?_ ?_ _|refine blS ?_ ?_ _|refine blT (by assumption) ?_ ?_);focus (go_size;done)))⟩;simp_all)
 by_cases d13 : op = 23
 ·subst d13
  have e : tk 23 0 = (0,0,0,0,false):=by
   unfold tk
   repeat (first | rw [if_pos (by omega)] | rw [if_neg (by omega)])
  have hc : cnt 23 = false:=by unfold cnt;first | rfl | (rw [decide_eq_true_eq];omega) | (rw [decide_eq_false_iff_not];omega)
  rw [e]
  have HK:=Lib.hid (fun W=>rcounted_any 23 W)
  rw [hc] at HK
  clear e hc
  go_enter Tryd.func23,Tryd.ntmps23
  go_wp2_with (go_at_call 45;with_reducible refine (HK.out _).mono ?_;rintro _ _ ⟨rfl,rfl⟩)
  all_goals refine bodyPost_ret (by simp [results,Tryd.results23,go_sem, *];try rfl) rfl ?_
  all_goals first | exact ⟨rfl,by (repeat' first|(with_reducible first|exact blR _ _|assumption|refine blD ?_|refine blN ?_ _)|((with_reducible first|refine blA ?_ ?_ _|refine blS ?_ ?_ _|refine blT (by assumption) ?_ ?_);focus (go_size;done)))⟩ | (refine ⟨?_,by (repeat' first|(with_reducible first|exact blR _ _|assumption|refine blD ?_|refine blN ?_ _)|((with_reducible first|refine blA ?_ ?_ _|refine blS ?_ ?_ _|refine blT (by assumption) ?_ ?_);focus (go_size;done)))⟩;simp_all)
 by_cases d14 : op ≤ 0
 ·have tok:=trivial
  have q25 : (op == 25) = false:=by rw [beq_eq_false_iff_ne];omega
  have r25 : (op != 25) = true:=by rw [bne_iff_ne];omega
  have q36 : (op == 36) = false:=by rw [beq_eq_false_iff_ne];omega
  have r36 : (op != 36) = true:=by rw [bne_iff_ne];omega
  have q101 : (op == 101) = false:=by rw [beq_eq_false_iff_ne];omega
  have r101 : (op != 101) = true:=by rw [bne_iff_ne];omega
  have q102 : (op == 102) = false:=by rw [beq_eq_false_iff_ne];omega
  have r102 : (op != 102) = true:=by rw [bne_iff_ne];omega
  have q26 : (op == 26) = false:=by rw [beq_eq_false_iff_ne];omega
  have q27 : (op == 27) = false:=by rw [beq_eq_false_iff_ne];omega
  have q8 : (op == 8) = false:=by rw [beq_eq_false_iff_ne];omega
  have q24 : (op == 24) = false:=by rw [beq_eq_false_iff_ne];omega
  have q28 : (op == 28) = false:=by rw [beq_eq_false_iff_ne];omega
  have q37 : (op == 37) = false:=by rw [beq_eq_false_iff_ne];omega
  have q29 : (op == 29) = false:=by rw [beq_eq_false_iff_ne];omega
  have q22 : (op == 22) = false:=by rw [beq_eq_false_iff_ne];omega
  have q35 : (op == 35) = false:=by rw [beq_eq_false_iff_ne];omega
  have q103 : (op == 103) = false:=by rw [beq_eq_false_iff_ne];omega
  have q104 : (op == 104) = false:=by rw [beq_eq_false_iff_ne];omega
  have e : tk op 0 = (0,0,0,0,false):=by
   unfold tk
   repeat (first | rw [if_pos (by omega)] | rw [if_neg (by omega)])
  have hc : cnt op = false:=by unfold cnt;first | rfl | (rw [decide_eq_true_eq];omega) | (rw [decide_eq_false_iff_not];omega)
  rw [e]
  have HK:=Lib.hid (fun W=>rcounted_any op W)
  rw [hc] at HK
  clear e hc
  go_enter Tryd.func23,Tryd.ntmps23
  go_wp2_with (go_at_call 45;with_reducible refine (HK.out _).mono ?_;rintro _ _ ⟨rfl,rfl⟩)
  all_goals refine bodyPost_ret (by simp [results,Tryd.results23,go_sem, *];try rfl) rfl ?_
  all_goals first | exact ⟨rfl,by (repeat' first|(with_reducible first|exact blR _ _|assumption|refine blD ?_|refine blN ?_ _)|((with_reducible first|refine blA ?_ ?_ _|refine blS ?_ ?_ _|refine blT (by assumption) ?_ ?_);focus (go_size;done)))⟩ | (refine ⟨?_,by (repeat' first|(with_reducible first|exact blR _ _|assumption|refine blD ?_|refine blN ?_ _)|((with_reducible first|refine blA ?_ ?_ _|refine blS ?_ ?_ _|refine blT (by assumption) ?_ ?_);focus (go_size;done)))⟩;simp_all)
 by_cases d15 : 105 ≤ op
 ·have tok:=trivial
  have q25 : (op == 25) = false:=by rw [beq_eq_false_iff_ne];omega
  have r25 : (op != 25) = true:=by rw [bne_iff_ne];omega
  have q36 : (op == 36) = false:=by rw [beq_eq_false_iff_ne];omega
  have r36 : (op != 36) = true:=by rw [bne_iff_ne];omega
  have q101 : (op == 101) = false:=by rw [beq_eq_false_iff_ne];omega
  have r101 : (op != 101) = true:=by rw [bne_iff_ne];omega
  have q102 : (op == 102) = false:=by rw [beq_eq_false_iff_ne];omega
  have r102 : (op != 102) = true:=by rw [bne_iff_ne];omega
  have q26 : (op == 26) = false:=by rw [beq_eq_false_iff_ne];omega
  have q27 : (op == 27) = false:=by rw [beq_eq_false_iff_ne];omega
  have q8 : (op == 8) = false:=by rw [beq_eq_false_iff_ne];omega
  have q24 : (op == 24) = false:=by rw [beq_eq_false_iff_ne];omega
  have q28 : (op == 28) = false:=by rw [beq_eq_false_iff_ne];omega
  have q37 : (op == 37) = false:=by rw [beq_eq_false_iff_ne];omega
  have q29 : (op == 29) = false:=by rw [beq_eq_false_iff_ne];omega
  have q22 : (op == 22) = false:=by rw [beq_eq_false_iff_ne];omega
  have q35 : (op == 35) = false:=by rw [beq_eq_false_iff_ne];omega
  have q103 : (op == 103) = false:=by rw [beq_eq_false_iff_ne];omega
  have q104 : (op == 104) = false:=by rw [beq_eq_false_iff_ne];omega
  have e : tk op 0 = (0,0,0,0,false):=by
   unfold tk
   repeat (first | rw [if_pos (by omega)] | rw [if_neg (by omega)])
  have hc : cnt op = false:=by unfold cnt;first | rfl | (rw [decide_eq_true_eq];omega) | (rw [decide_eq_false_iff_not];omega)
  rw [e]
  have HK:=Lib.hid (fun W=>rcounted_any op W)
  rw [hc] at HK
  clear e hc
  go_enter Tryd.func23,Tryd.ntmps23
  go_wp2_with (go_at_call 45;with_reducible refine (HK.out _).mono ?_;rintro _ _ ⟨rfl,rfl⟩)
  all_goals refine bodyPost_ret (by simp [results,Tryd.results23,go_sem, *];try rfl) rfl ?_
  all_goals first | exact ⟨rfl,by (repeat' first|(with_reducible first|exact blR _ _|assumption|refine blD ?_|refine blN ?_ _)|((with_reducible first|refine blA ?_ ?_ _|refine blS ?_ ?_ _|refine blT (by assumption) ?_ ?_);focus (go_size;done)))⟩ | (refine ⟨?_,by (repeat' first|(with_reducible first|exact blR _ _|assumption|refine blD ?_|refine blN ?_ _)|((with_reducible first|refine blA ?_ ?_ _|refine blS ?_ ?_ _|refine blT (by assumption) ?_ ?_);focus (go_size;done)))⟩;simp_all)
 have da : 38 ≤ op:=by omega
 have db : op ≤ 100:=by omega
 have q25 : (op == 25) = false:=by rw [beq_eq_false_iff_ne];omega
 have r25 : (op != 25) = true:=by rw [bne_iff_ne];omega
 have q36 : (op == 36) = false:=by rw [beq_eq_false_iff_ne];omega
 have r36 : (op != 36) = true:=by rw [bne_iff_ne];omega
 have q101 : (op == 101) = false:=by rw [beq_eq_false_iff_ne];omega
 have r101 : (op != 101) = true:=by rw [bne_iff_ne];omega
 have q102 : (op == 102) = false:=by rw [beq_eq_false_iff_ne];omega
 have r102 : (op != 102) = true:=by rw [bne_iff_ne];omega
 have q26 : (op == 26) = false:=by rw [beq_eq_false_iff_ne];omega
 have q27 : (op == 27) = false:=by rw [beq_eq_false_iff_ne];omega
 have q8 : (op == 8) = false:=by rw [beq_eq_false_iff_ne];omega
 have q24 : (op == 24) = false:=by rw [beq_eq_false_iff_ne];omega
 have q28 : (op == 28) = false:=by rw [beq_eq_false_iff_ne];omega
 have q37 : (op == 37) = false:=by rw [beq_eq_false_iff_ne];omega
 have q29 : (op == 29) = false:=by rw [beq_eq_false_iff_ne];omega
 have q22 : (op == 22) = false:=by rw [beq_eq_false_iff_ne];omega
 have q35 : (op == 35) = false:=by rw [beq_eq_false_iff_ne];omega
 have q103 : (op == 103) = false:=by rw [beq_eq_false_iff_ne];omega
 have q104 : (op == 104) = false:=by rw [beq_eq_false_iff_ne];omega
 have e : tk op 0 = (0,0,0,0,false):=by
  unfold tk
  repeat (first | rw [if_pos (by omega)] | rw [if_neg (by omega)])
 have hc : cnt op = false:=by unfold cnt;first | rfl | (rw [decide_eq_true_eq];omega) | (rw [decide_eq_false_iff_not];omega)
 rw [e]
 have HK:=Lib.hid (fun W=>rcounted_any op W)
 rw [hc] at HK
 clear e hc
 go_enter Tryd.func23,Tryd.ntmps23
 go_wp2_with (go_at_call 45;with_reducible refine (HK.out _).mono ?_;rintro _ _ ⟨rfl,rfl⟩)
 all_goals refine bodyPost_ret (by simp [results,Tryd.results23,go_sem, *];try rfl) rfl ?_
 all_goals first | exact ⟨rfl,by (repeat' first|(with_reducible first|exact blR _ _|assumption|refine blD ?_|refine blN ?_ _)|((with_reducible first|refine blA ?_ ?_ _|refine blS ?_ ?_ _|refine blT (by assumption) ?_ ?_);focus (go_size;done)))⟩ | (refine ⟨?_,by (repeat' first|(with_reducible first|exact blR _ _|assumption|refine blD ?_|refine blN ?_ _)|((with_reducible first|refine blA ?_ ?_ _|refine blS ?_ ?_ _|refine blT (by assumption) ?_ ?_);focus (go_size;done)))⟩;simp_all)
end Go.Proofs.YtnhmplfonkjfoaaDoor



namespace Go.Proofs.YtnhmplfonkjfoaaDoor

def note (S : St) (k : Nat) (x : Way) : Option St :=
 match S.getD k none with
 | none=>some (S.set k (some x))
 | some y=>if y = x then some S else none
def after (op a : Int) (x : Way) : Way:=(x.1 - (tk op a).1 + (tk op a).2.1,x.2 + (tk op a).2.2.1)
def isJ (op : Int) : Bool:=decide (op = 101 ∨ op = 102)
def vGo (n : Nat) (f : Int) : List (Int × Int) → Nat → St → Int → Int × Int
 | [],_,S,m=>if S.getD n none = some (1,f) then (max m 1,0) else (0,2)
 | (op,a) :: r,i,S,m =>
  match S.getD i none with
  | none=>(0,2)
  | some x =>
   if (tk op a).2.2.2.2 = true ∧ (tk op a).1 ≤ x.1 ∧ (tk op a).2.2.2.1 ≤ x.2 then
    match (if isJ op = true then (if (i : Int) < a ∧ a ≤ n then note S a.toNat (after op a x) else none) else some S) with
    | none=>(0,2)
    | some S1 =>
     match (if op = 101 then some S1 else note S1 (i + 1) (after op a x)) with
     | none=>(0,2)
     | some S2=>vGo n f r (i + 1) S2 (max m x.1)
   else (0,2)
def alikeB (l : List Way) : Bool:=match l with | []=>false | x :: r=>r.all fun y=>decide (y = x)
def dGo (n : Nat) (f : Int) : List (Int × Int) → Nat → Wy → Int → Int × Int
 | [],_,W,m=>if alikeB (W.getD n []) = true ∧ (W.getD n []).head? = some (1,f) then (max m 1,0) else (0,2)
 | (op,a) :: r,i,W,m =>
  match (W.getD i []).head? with
  | none=>(0,2)
  | some x =>
   if (tk op a).2.2.2.2 = true ∧ alikeB (W.getD i []) = true ∧ (tk op a).1 ≤ x.1 ∧ (tk op a).2.2.2.1 ≤ x.2 then
    if isJ op = true ∧ ¬ ((i : Int) < a ∧ a ≤ n) then (0,2)
    else
     let W1:=if isJ op = true then put W a.toNat (after op a x) else W
     let W2:=if op = 101 then W1 else put W1 (i + 1) (after op a x)
     dGo n f r (i + 1) W2 (max m x.1)
   else (0,2)
theorem bad_not {l : List Way} (h : Bad l) : alikeB l = false:=by
 obtain ⟨x,y,hx,hy,hn⟩:=h
 cases l with
 | nil=>cases hx
 | cons z r =>
  cases hb : alikeB (z :: r) with
  | false=>rfl
  | true =>
   exfalso
   simp only [alikeB,List.all_eq_true,decide_eq_true_eq] at hb
   have e : ∀ q,q ∈ z :: r → q = z:=fun q hq=>by
    rcases List.mem_cons.1 hq with rfl | hq
    ·rfl
    ·exact hb q hq
   exact hn ((e x hx).trans (e y hy).symm)
theorem dGo_bad (n : Nat) (f : Int) : ∀ (is : List (Int × Int)) (i : Nat) (W : Wy) (m : Int),i + is.length = n → W.length = n + 1 → (∃ j,i ≤ j ∧ j ≤ n ∧ Bad (W.getD j [])) → dGo n f is i W m = (0,2):=by
 intro is
 induction is with
 | nil =>
  intro i W m hi hW ⟨j,h1,h2,h3⟩
  obtain rfl : j = n:=by simp at hi;omega
  unfold dGo
  rw [if_neg (fun h=>by rw [bad_not h3] at h;exact Bool.noConfusion h.1)]
 | cons p r ih =>
  intro i W m hi hW ⟨j,h1,h2,h3⟩
  obtain ⟨op,a⟩:=p
  simp only [List.length_cons] at hi
  unfold dGo
  split
  ·rfl
  ·rename_i x hx
   split
   ·rename_i hc
    have hij : i ≠ j:=fun e=>by subst e;rw [bad_not h3] at hc;exact Bool.noConfusion hc.2.1
    split
    ·rfl
    ·rename_i hb
     have hb' : isJ op = true → a.toNat < W.length:=fun h=>by
      have:=Classical.not_not.1 fun hn=>hb ⟨h,hn⟩
      omega
     have b1 : Bad ((if isJ op = true then put W a.toNat (after op a x) else W).getD j []):=by
      split
      ·rename_i hj;exact h3.put (hb' hj)
      ·exact h3
     have l1 : (if isJ op = true then put W a.toNat (after op a x) else W).length = n + 1:=by split <;> simp [put_length,hW]
     refine ih _ _ _ (by omega) ?_ ⟨j,by omega,h2, ?_⟩
     ·split
      ·exact l1
      ·rw [put_length];exact l1
     ·split
      ·exact b1
      ·exact b1.put (by omega)
   ·rfl
theorem alike_of {l : List Way} {x : Way} (h : l ≠ []) (ha : ∀ y,y ∈ l → y = x) : alikeB l = true ∧ l.head? = some x:=by
 cases l with
 | nil=>exact absurd rfl h
 | cons z r =>
  have hz:=ha z (List.mem_cons_self ..)
  subst hz
  refine ⟨?_,rfl⟩
  simp only [alikeB,List.all_eq_true,decide_eq_true_eq]
  exact fun y hy=>ha y (List.mem_cons_of_mem _ hy)
theorem note_rel {i k : Nat} {S : St} {W : Wy} {x : Way} (h : Rel i S W) (hk : k < W.length) (hS : S.length = W.length) (hik : i ≤ k) :
  (∃ S',note S k x = some S' ∧ S'.length = S.length ∧ Rel i S' (put W k x)) ∨ (note S k x = none ∧ Bad ((put W k x).getD k [])):=by
 unfold note
 obtain ⟨h1,h2⟩:=h k hik
 split
 ·rename_i e
  refine .inl ⟨_,rfl,by simp,fun j hj=>?_⟩
  rw [getD_put W k j x hk,getD_setO S k j _ (by omega)]
  split
  ·rename_i e2;subst e2
   rw [h1 e]
   exact ⟨fun hh=>by simp at hh,fun y hy=>by injection hy with hy;subst hy;exact ⟨by simp,fun z hz=>by simpa using hz⟩⟩
  ·exact h j hj
 ·rename_i y e
  obtain ⟨h3,h4⟩:=h2 y e
  split
  ·rename_i e2;subst e2
   refine .inl ⟨_,rfl,rfl,fun j hj=>?_⟩
   rw [getD_put W k j _ hk]
   split
   ·rename_i e3;subst e3
    rw [e]
    exact ⟨fun hh=>by simp at hh,fun z hz=>by
     injection hz with hz;subst hz
     exact ⟨by simp,fun q hq=>by
      rcases List.mem_append.1 hq with hq | hq
      ·exact h4 q hq
      ·simpa using hq⟩⟩
   ·exact h j hj
  ·rename_i hne
   refine .inr ⟨rfl, ?_⟩
   rw [getD_put W k k x hk,if_pos rfl]
   cases hl : W.getD k [] with
   | nil=>exact absurd hl h3
   | cons z r =>
    have hz : z = y:=h4 z (by rw [hl];exact List.mem_cons_self ..)
    subst hz
    exact ⟨z,x,by simp,by simp,hne⟩
theorem go_eq (n : Nat) (f : Int) : ∀ (is : List (Int × Int)) (i : Nat) (S : St) (W : Wy) (m : Int),i + is.length = n → S.length = n + 1 → W.length = n + 1 → Rel i S W → vGo n f is i S m = dGo n f is i W m:=by
 intro is
 induction is with
 | nil =>
  intro i S W m hi hS hW h
  obtain rfl : i = n:=by simpa using hi
  obtain ⟨h1,h2⟩:=h i (Nat.le_refl _)
  unfold vGo dGo
  cases e : S.getD i none with
  | none=>rw [h1 e];simp
  | some x =>
   obtain ⟨h3,h4⟩:=alike_of (h2 x e).1 (h2 x e).2
   rw [h3,h4]
   simp
 | cons p r ih =>
  intro i S W m hi hS hW h
  obtain ⟨op,a⟩:=p
  simp only [List.length_cons] at hi
  obtain ⟨h1,h2⟩:=h i (Nat.le_refl _)
  unfold vGo dGo
  cases e : S.getD i none with
  | none=>rw [h1 e];rfl
  | some x =>
   obtain ⟨h3,h4⟩:=alike_of (h2 x e).1 (h2 x e).2
   rw [h3,h4]
   dsimp only
   by_cases hc : (tk op a).2.2.2.2 = true ∧ (tk op a).1 ≤ x.1 ∧ (tk op a).2.2.2.1 ≤ x.2
   ·rw [if_pos hc,if_pos (show (tk op a).2.2.2.2 = true ∧ true = true ∧ (tk op a).1 ≤ x.1 ∧ (tk op a).2.2.2.1 ≤ x.2 from ⟨hc.1,rfl,hc.2⟩)]
    obtain ⟨y,hy⟩ : ∃ y,y = after op a x:=⟨_,rfl⟩
    rw [← hy]
    have tail : ∀ (S1 : St) (W1 : Wy),S1.length = n + 1 → W1.length = n + 1 → Rel i S1 W1 →
      (match (if op = 101 then some S1 else note S1 (i + 1) y) with | none=>((0 : Int),(2 : Int)) | some S2=>vGo n f r (i + 1) S2 (max m x.1)) = dGo n f r (i + 1) (if op = 101 then W1 else put W1 (i + 1) y) (max m x.1):=by
     intro S1 W1 s1 w1 hr
     by_cases ho : op = 101
     ·rw [if_pos ho,if_pos ho]
      exact ih _ _ _ _ (by omega) s1 w1 (hr.mono (by omega))
     ·rw [if_neg ho,if_neg ho]
      rcases note_rel (x:=y) (k:=i + 1) hr (by omega) (by omega) (by omega) with ⟨S2,q1,q2,q3⟩ | ⟨q1,q2⟩
      ·rw [q1]
       exact ih _ _ _ _ (by omega) (by omega) (by rw [put_length];exact w1) (q3.mono (by omega))
      ·rw [q1]
       exact (dGo_bad n f r (i + 1) _ _ (by omega) (by rw [put_length];exact w1) ⟨i + 1,Nat.le_refl _,by omega,q2⟩).symm
    by_cases hj : isJ op = true
    ·rw [if_pos hj]
     by_cases hb : (i : Int) < a ∧ a ≤ n
     ·rw [if_pos hb,if_neg (show ¬ (isJ op = true ∧ ¬ ((i : Int) < a ∧ a ≤ n)) from fun hh=>hh.2 hb),if_pos hj]
      rcases note_rel (x:=y) (k:=a.toNat) h (by omega) (by omega) (by omega) with ⟨S2,q1,q2,q3⟩ | ⟨q1,q2⟩
      ·rw [q1]
       exact tail S2 _ (by omega) (by rw [put_length];exact hW) q3
      ·rw [q1]
       dsimp only
       refine (dGo_bad n f r (i + 1) _ _ (by omega) ?_ ⟨a.toNat,by omega,by omega, ?_⟩).symm
       ·split
        ·rw [put_length];exact hW
        ·rw [put_length,put_length];exact hW
       ·split
        ·exact q2
        ·exact q2.put (by rw [put_length];omega)
     ·rw [if_neg hb,if_pos ⟨hj,hb⟩]
    ·rw [if_neg hj,if_neg (show ¬ (isJ op = true ∧ ¬ ((i : Int) < a ∧ a ≤ n)) from fun hh=>hj hh.1),if_neg hj]
     exact tail S W hS hW h
   ·rw [if_neg hc,if_neg (show ¬ ((tk op a).2.2.2.2 = true ∧ true = true ∧ (tk op a).1 ≤ x.1 ∧ (tk op a).2.2.2.1 ≤ x.2) from fun hh=>hc ⟨hh.1,hh.2.2⟩)]
def verS (is : List (Int × Int)) (f : Int) : Int × Int:=if 600 < is.length then (0,6) else vGo is.length f is 0 (some (0,f) :: List.replicate is.length none) 0
def docS (is : List (Int × Int)) (f : Int) : Int × Int:=if 600 < is.length then (0,6) else dGo is.length f is 0 ([(0,f)] :: List.replicate is.length []) 0
theorem ver_doc (is : List (Int × Int)) (f : Int) : verS is f = docS is f:=by
 unfold verS docS
 split
 ·rfl
 ·refine go_eq _ _ _ _ _ _ _ (by omega) (by simp) (by simp) fun k _=>?_
  cases k with
  | zero=>exact ⟨fun h=>by simp at h,fun x hx=>by simp at hx;subst hx;exact ⟨by simp,fun y hy=>by simpa using hy⟩⟩
  | succ k =>
   have e1 : ((some (0,f) : Option Way) :: List.replicate is.length none).getD (k + 1) none = none:=by
    rw [List.getD_eq_getElem?_getD,List.getElem?_cons_succ,List.getElem?_replicate];split <;> rfl
   have e2 : (([(0,f)] : List Way) :: List.replicate is.length []).getD (k + 1) [] = []:=by
    rw [List.getD_eq_getElem?_getD,List.getElem?_cons_succ,List.getElem?_replicate];split <;> rfl
   rw [e1,e2]
   exact ⟨fun _=>rfl,fun x hx=>by simp at hx⟩
def TB (a : Int) (z : Int × Int × Int × Int × Bool) : Prop:=z.2.2.2.2 = true → 0 ≤ z.1 ∧ 0 ≤ z.2.1 ∧ z.2.1 ≤ 1 ∧ -1 ≤ z.2.2.1 ∧ z.2.2.1 ≤ 1 ∧ 0 ≤ z.2.2.2.1 ∧ z.2.2.2.1 ≤ 1 ∧ (z.1 = a ∨ z.1 ≤ 3)
theorem TB.ite {a : Int} {c : Prop} [Decidable c] {x y : Int × Int × Int × Int × Bool} (h : c → TB a x) (k : ¬ c → TB a y) : TB a (if c then x else y):=by
 by_cases hc : c
 ·rw [if_pos hc];exact h hc
 ·rw [if_neg hc];exact k hc
theorem tk_TB (op a : Int) : TB a (tk op a):=by
 unfold tk
 (repeat' (refine TB.ite (fun _=>?_) (fun _=>?_))) <;> (unfold TB;intro h;first | (exact Bool.noConfusion h) | (refine ⟨?_, ?_, ?_, ?_, ?_, ?_, ?_, ?_⟩ <;> dsimp only <;> omega))
theorem tk_bounds {op a : Int} (h : (tk op a).2.2.2.2 = true) : 0 ≤ (tk op a).1 ∧ 0 ≤ (tk op a).2.1 ∧ (tk op a).2.1 ≤ 1 ∧ -1 ≤ (tk op a).2.2.1 ∧ (tk op a).2.2.1 ≤ 1 ∧ 0 ≤ (tk op a).2.2.2.1 ∧ (tk op a).2.2.2.1 ≤ 1 ∧ ((tk op a).1 = a ∨ (tk op a).1 ≤ 3):=tk_TB op a h
def InB (i : Nat) (x : Way) : Prop:=0 ≤ x.1 ∧ x.1 ≤ i ∧ -(i : Int) ≤ x.2 ∧ x.2 ≤ i + 1
theorem InB.next {i : Nat} {x : Way} {op a : Int} (h : InB i x) (hk : (tk op a).2.2.2.2 = true) (h1 : (tk op a).1 ≤ x.1) : InB (i + 1) (after op a x):=by
 obtain ⟨b1,b2,b3,b4,b5,_⟩:=tk_bounds hk
 obtain ⟨c1,c2,c3,c4⟩:=h
 unfold after
 refine ⟨?_, ?_, ?_, ?_⟩ <;> dsimp only <;> omega
theorem InB.up {i : Nat} {x : Way} (h : InB i x) : InB (i + 1) x:=by obtain ⟨c1,c2,c3,c4⟩:=h;exact ⟨c1,by omega,by omega,by omega⟩
section
variable {n i : Nat} {f op a m : Int} {r : List (Int × Int)} {S S1 S2 : St} {x : Way}
theorem vGo_none (h : S.getD i none = none) : vGo n f ((op,a) :: r) i S m = (0,2):=by unfold vGo;rw [h]
theorem vGo_bad (h : S.getD i none = some x) (hc : ¬ ((tk op a).2.2.2.2 = true ∧ (tk op a).1 ≤ x.1 ∧ (tk op a).2.2.2.1 ≤ x.2)) : vGo n f ((op,a) :: r) i S m = (0,2):=by
 unfold vGo;rw [h];dsimp only;rw [if_neg hc]
theorem vGo_out (h : S.getD i none = some x) (hc : (tk op a).2.2.2.2 = true ∧ (tk op a).1 ≤ x.1 ∧ (tk op a).2.2.2.1 ≤ x.2) (hj : isJ op = true) (hb : ¬ ((i : Int) < a ∧ a ≤ n)) : vGo n f ((op,a) :: r) i S m = (0,2):=by
 unfold vGo;rw [h];dsimp only;rw [if_pos hc,if_pos hj,if_neg hb]
theorem vGo_un (h : S.getD i none = some x) (hc : (tk op a).2.2.2.2 = true ∧ (tk op a).1 ≤ x.1 ∧ (tk op a).2.2.2.1 ≤ x.2) (hj : isJ op = true) (hb : (i : Int) < a ∧ a ≤ n) (hn : note S a.toNat (after op a x) = none) : vGo n f ((op,a) :: r) i S m = (0,2):=by
 unfold vGo;rw [h];dsimp only;rw [if_pos hc,if_pos hj,if_pos hb,hn]
def vTail (n : Nat) (f : Int) (op a : Int) (r : List (Int × Int)) (i : Nat) (S1 : St) (m : Int) (x : Way) : Int × Int :=
 match (if op = 101 then some S1 else note S1 (i + 1) (after op a x)) with
 | none=>(0,2)
 | some S2=>vGo n f r (i + 1) S2 (max m x.1)
theorem vGo_jump (h : S.getD i none = some x) (hc : (tk op a).2.2.2.2 = true ∧ (tk op a).1 ≤ x.1 ∧ (tk op a).2.2.2.1 ≤ x.2) (hj : isJ op = true) (hb : (i : Int) < a ∧ a ≤ n) (hn : note S a.toNat (after op a x) = some S1) : vGo n f ((op,a) :: r) i S m = vTail n f op a r i S1 m x:=by
 unfold vTail
 rw [vGo];rw [h];dsimp only;rw [if_pos hc,if_pos hj,if_pos hb,hn]
theorem vGo_plain (h : S.getD i none = some x) (hc : (tk op a).2.2.2.2 = true ∧ (tk op a).1 ≤ x.1 ∧ (tk op a).2.2.2.1 ≤ x.2) (hj : isJ op = false) : vGo n f ((op,a) :: r) i S m = vTail n f op a r i S m x:=by
 unfold vTail
 rw [vGo];rw [h];dsimp only;rw [if_pos hc,hj];rfl
theorem vTail_101 : vTail n f 101 a r i S1 m x = vGo n f r (i + 1) S1 (max m x.1):=rfl
theorem vTail_un (ho : op ≠ 101) (hn : note S1 (i + 1) (after op a x) = none) : vTail n f op a r i S1 m x = (0,2):=by unfold vTail;rw [if_neg ho,hn]
theorem vTail_go (ho : op ≠ 101) (hn : note S1 (i + 1) (after op a x) = some S2) : vTail n f op a r i S1 m x = vGo n f r (i + 1) S2 (max m x.1):=by unfold vTail;rw [if_neg ho,hn]
end
theorem note_length {S S' : St} {k : Nat} {x : Way} (h : note S k x = some S') : S'.length = S.length:=by
 unfold note at h
 split at h
 ·injection h with h;subst h;simp
 ·split at h
  ·injection h with h;subst h;rfl
  ·cases h
theorem note_inB {S S' : St} {k i : Nat} {x : Way} (h : note S k x = some S') (hk : k < S.length) (hS : ∀ j y,S.getD j none = some y → InB i y) (hx : InB i x) : ∀ j y,S'.getD j none = some y → InB i y:=by
 intro j y hy
 unfold note at h
 split at h
 ·injection h with h;subst h
  rw [getD_setO S k j _ hk] at hy
  split at hy
  ·injection hy with hy;subst hy;exact hx
  ·exact hS j y hy
 ·split at h
  ·injection h with h;subst h;exact hS j y hy
  ·cases h
end Go.Proofs.YtnhmplfonkjfoaaDoor



namespace Go.Proofs.YtnhmplfonkjfoaaDoor
open Go.RowKit

section
variable {w w' : World} {o o' : Nat → Nat} {l g : Nat} {S : St} {T : Nat → Prop}
theorem Stt.lab (h : Stt w o l g S) : o g = l:=by obtain ⟨cs,h1,h2⟩:=h;exact h1.2
end
def ReachPost (w : World) (o : Nat → Nat) (l g : Nat) (S : St) (k : Nat) (x : Way) (e : Ending) (w' : World) : Prop :=
 Turn (· = l) w o w' o ∧ ((∃ S',note S k x = some S' ∧ e = .returned (.bool true) ∧ Stt w' o l g S') ∨ (note S k x = none ∧ e = .returned (.bool false)))
set_option maxRecDepth 100000 in
theorem eq_state (a b : Bool) (c d e f : Int) (W : World) : (binOp .eql 60 (.agg #[.bool a,.int .i64 c,.int .i64 e]) (.agg #[.bool b,.int .i64 d,.int .i64 f])).run Tryd.prog W = .ok (.bool (a == b && (c == d && e == f))) W:=by
 go_simp
 by_cases h0 : a = b <;> by_cases h1 : c = d <;> by_cases h2 : e = f <;> simp [h0,h1,h2]
set_option maxRecDepth 100000 in
theorem neq_state (a b : Bool) (c d e f : Int) (W : World) : (binOp .neq 60 (.agg #[.bool a,.int .i64 c,.int .i64 e]) (.agg #[.bool b,.int .i64 d,.int .i64 f])).run Tryd.prog W = .ok (.bool (!(a == b && (c == d && e == f)))) W:=by
 go_simp
 by_cases h0 : a = b <;> by_cases h1 : c = d <;> by_cases h2 : e = f <;> simp [h0,h1,h2]
set_option maxHeartbeats 1000000 in
theorem reach_any (w : World) (o : Nat → Nat) (l g : Nat) (S : St) (h : Stt w o l g S) (k : Nat) (hk : k < S.length) (x : Way) :
  Calls Tryd.prog 26 #[.pointer (some ⟨g,k * 3,none⟩),.int .i64 x.1,.int .i64 x.2] w (ReachPost w o l g S k x):=by
 obtain ⟨c0,c1,c2⟩:=h.cells hk
 have hlt:=h.lt
 have f0:=h.frozen (k * 3)
 have f1:=h.frozen (k * 3 + 1)
 have f2:=h.frozen (k * 3 + 2)
 have HS:=Lib.hid h
 obtain ⟨x1,x2⟩:=x
 cases e : S.getD k none with
 | none =>
  rw [e] at c0 c1 c2
  have HN : Hid (note S k (x1,x2) = some (S.set k (some (x1,x2)))):=Lib.hid (by unfold note;rw [e])
  dsimp only [oB,oH,oE,Option.isSome,Option.getD] at c0 c1 c2
  clear h e
  go_enter Tryd.func26,Tryd.ntmps26
  go_wp2_with fail
  go_ret
  refine ⟨?_,.inl ⟨_,HN.out,rfl, ?_⟩⟩
  ·exact (((((Turn.refl (· = l) w o).setCell (.inr HS.out.lab) _).setCell (.inr HS.out.lab) _).setCell (.inr HS.out.lab) _).alloc _)
  ·exact (HS.out.store hk (x1,x2)).alloc _
 | some y =>
  rw [e] at c0 c1 c2
  obtain ⟨y1,y2⟩:=y
  dsimp only [oB,oH,oE,Option.isSome,Option.getD] at c0 c1 c2
  have r1 : ∀ W,(binOp .eql 60 (.agg #[.bool true,.int .i64 y1,.int .i64 y2]) (.agg #[.bool true,.int .i64 x1,.int .i64 x2])).run Tryd.prog W = .ok (.bool (y1 == x1 && y2 == x2)) W:=fun W=>by rw [eq_state];rfl
  have HN : Hid (note S k (x1,x2) = if (y1 == x1 && y2 == x2) = true then some S else none):=Lib.hid (by
   unfold note;rw [e];dsimp only
   by_cases h1 : y1 = x1 <;> by_cases h2 : y2 = x2 <;> simp [h1,h2])
  generalize (y1 == x1 && y2 == x2) = b at *
  clear h e
  go_enter Tryd.func26,Tryd.ntmps26
  go_wp2_with fail
  go_quiet (fail)
  go_wp2_with fail
  go_ret
  refine ⟨(Turn.refl (· = l) w o).alloc _ |>.drewN _, ?_⟩
  have hn:=HN.out
  cases b with
  | true=>exact .inl ⟨_,hn,rfl,(HS.out.alloc _).drewN _⟩
  | false=>exact .inr ⟨hn,rfl⟩
end Go.Proofs.YtnhmplfonkjfoaaDoor



namespace Go.Proofs.YtnhmplfonkjfoaaDoor
open Go.RowKit

set_option maxHeartbeats 4000000 in
theorem effect_any (op a : Int) (tx : ByteArray) (ng : Bool) (hi lo sc dy : Int) (w : World) : Calls Tryd.prog 25 #[.agg #[.int .i64 op,.int .i64 a,.string tx,.bool ng,.int .u64 hi,.int .u64 lo,.int .i64 sc,.int .i64 dy]] w fun e w'=>e = .returned (.tuple #[.agg #[.int .i64 (tk op a).1,.int .i64 (tk op a).2.1,.int .i64 (tk op a).2.2.1,.int .i64 (tk op a).2.2.2.1],.bool (tk op a).2.2.2.2]) ∧ Below w.heap.size w w':=by
 rcases Int.lt_or_le a 0 with h0 | h0
 ·have tok:=trivial
  have e : tk op a = (0,0,0,0,false):=by
   unfold tk
   repeat (first | rw [if_pos (by omega)] | rw [if_neg (by omega)])
  have hc : cnt op = cnt op:=by unfold cnt;first | rfl | (rw [decide_eq_true_eq];omega) | (rw [decide_eq_false_iff_not];omega)
  rw [e]
  have HK:=Lib.hid (fun W=>counted_any op W)
  rw [hc] at HK
  clear e hc
  go_enter Tryd.func25,Tryd.ntmps25
  go_wp2_with (go_at_call 44;with_reducible refine (HK.out _).mono ?_;rintro _ _ ⟨rfl,rfl⟩)
  all_goals refine bodyPost_ret (by simp [results,Tryd.results25,go_sem, *];try rfl) rfl ?_
  all_goals first | exact ⟨rfl,by (repeat' first|(with_reducible first|exact blR _ _|assumption|refine blD ?_|refine blN ?_ _)|((with_reducible first|refine blA ?_ ?_ _|refine blS ?_ ?_ _|refine blT (by assumption) ?_ ?_);focus (go_size;done)))⟩ | (refine ⟨?_,by (repeat' first|(with_reducible first|exact blR _ _|assumption|refine blD ?_|refine blN ?_ _)|((with_reducible first|refine blA ?_ ?_ _|refine blS ?_ ?_ _|refine blT (by assumption) ?_ ?_);focus (go_size;done)))⟩;simp_all)
 by_cases c1 : op = 25
 ·subst c1
  by_cases c2 : 8 < a
  ·have tok:=trivial
   have e : tk 25 a = (0,0,0,0,false):=by
    unfold tk
    repeat (first | rw [if_pos (by omega)] | rw [if_neg (by omega)])
   have hc : cnt 25 = true:=by unfold cnt;first | rfl | (rw [decide_eq_true_eq];omega) | (rw [decide_eq_false_iff_not];omega)
   rw [e]
   have HK:=Lib.hid (fun W=>counted_any 25 W)
   rw [hc] at HK
   clear e hc
   go_enter Tryd.func25,Tryd.ntmps25
   go_wp2_with (go_at_call 44;with_reducible refine (HK.out _).mono ?_;rintro _ _ ⟨rfl,rfl⟩)
   all_goals refine bodyPost_ret (by simp [results,Tryd.results25,go_sem, *];try rfl) rfl ?_
   all_goals first | exact ⟨rfl,by (repeat' first|(with_reducible first|exact blR _ _|assumption|refine blD ?_|refine blN ?_ _)|((with_reducible first|refine blA ?_ ?_ _|refine blS ?_ ?_ _|refine blT (by assumption) ?_ ?_);focus (go_size;done)))⟩ | (refine ⟨?_,by (repeat' first|(with_reducible first|exact blR _ _|assumption|refine blD ?_|refine blN ?_ _)|((with_reducible first|refine blA ?_ ?_ _|refine blS ?_ ?_ _|refine blT (by assumption) ?_ ?_);focus (go_size;done)))⟩;simp_all)
  ·have c3 : a ≤ 8:=by omega
   have e : tk 25 a = (a,1,0,0,true):=by
    unfold tk
    repeat (first | rw [if_pos (by omega)] | rw [if_neg (by omega)])
   have hc : cnt 25 = true:=by unfold cnt;first | rfl | (rw [decide_eq_true_eq];omega) | (rw [decide_eq_false_iff_not];omega)
   rw [e]
   have HK:=Lib.hid (fun W=>counted_any 25 W)
   rw [hc] at HK
   clear e hc
   go_enter Tryd.func25,Tryd.ntmps25
   go_wp2_with (go_at_call 44;with_reducible refine (HK.out _).mono ?_;rintro _ _ ⟨rfl,rfl⟩)
   all_goals refine bodyPost_ret (by simp [results,Tryd.results25,go_sem, *];try rfl) rfl ?_
   all_goals first | exact ⟨rfl,by (repeat' first|(with_reducible first|exact blR _ _|assumption|refine blD ?_|refine blN ?_ _)|((with_reducible first|refine blA ?_ ?_ _|refine blS ?_ ?_ _|refine blT (by assumption) ?_ ?_);focus (go_size;done)))⟩ | (refine ⟨?_,by (repeat' first|(with_reducible first|exact blR _ _|assumption|refine blD ?_|refine blN ?_ _)|((with_reducible first|refine blA ?_ ?_ _|refine blS ?_ ?_ _|refine blT (by assumption) ?_ ?_);focus (go_size;done)))⟩;simp_all)
 by_cases c2 : op = 36
 ·subst c2
  by_cases c2 : a < 1
  ·have tok:=trivial
   have e : tk 36 a = (0,0,0,0,false):=by
    unfold tk
    repeat (first | rw [if_pos (by omega)] | rw [if_neg (by omega)])
   have hc : cnt 36 = true:=by unfold cnt;first | rfl | (rw [decide_eq_true_eq];omega) | (rw [decide_eq_false_iff_not];omega)
   rw [e]
   have HK:=Lib.hid (fun W=>counted_any 36 W)
   rw [hc] at HK
   clear e hc
   go_enter Tryd.func25,Tryd.ntmps25
   go_wp2_with (go_at_call 44;with_reducible refine (HK.out _).mono ?_;rintro _ _ ⟨rfl,rfl⟩)
   all_goals refine bodyPost_ret (by simp [results,Tryd.results25,go_sem, *];try rfl) rfl ?_
   all_goals first | exact ⟨rfl,by (repeat' first|(with_reducible first|exact blR _ _|assumption|refine blD ?_|refine blN ?_ _)|((with_reducible first|refine blA ?_ ?_ _|refine blS ?_ ?_ _|refine blT (by assumption) ?_ ?_);focus (go_size;done)))⟩ | (refine ⟨?_,by (repeat' first|(with_reducible first|exact blR _ _|assumption|refine blD ?_|refine blN ?_ _)|((with_reducible first|refine blA ?_ ?_ _|refine blS ?_ ?_ _|refine blT (by assumption) ?_ ?_);focus (go_size;done)))⟩;simp_all)
  ·have c3 : 1 ≤ a:=by omega
   have e : tk 36 a = (a,1,0,0,true):=by
    unfold tk
    repeat (first | rw [if_pos (by omega)] | rw [if_neg (by omega)])
   have hc : cnt 36 = true:=by unfold cnt;first | rfl | (rw [decide_eq_true_eq];omega) | (rw [decide_eq_false_iff_not];omega)
   rw [e]
   have HK:=Lib.hid (fun W=>counted_any 36 W)
   rw [hc] at HK
   clear e hc
   go_enter Tryd.func25,Tryd.ntmps25
   go_wp2_with (go_at_call 44;with_reducible refine (HK.out _).mono ?_;rintro _ _ ⟨rfl,rfl⟩)
   all_goals refine bodyPost_ret (by simp [results,Tryd.results25,go_sem, *];try rfl) rfl ?_
   all_goals first | exact ⟨rfl,by (repeat' first|(with_reducible first|exact blR _ _|assumption|refine blD ?_|refine blN ?_ _)|((with_reducible first|refine blA ?_ ?_ _|refine blS ?_ ?_ _|refine blT (by assumption) ?_ ?_);focus (go_size;done)))⟩ | (refine ⟨?_,by (repeat' first|(with_reducible first|exact blR _ _|assumption|refine blD ?_|refine blN ?_ _)|((with_reducible first|refine blA ?_ ?_ _|refine blS ?_ ?_ _|refine blT (by assumption) ?_ ?_);focus (go_size;done)))⟩;simp_all)
 by_cases c3 : op = 26
 ·subst c3
  have e : tk 26 a = (a,1,0,0,true):=by
   unfold tk
   repeat (first | rw [if_pos (by omega)] | rw [if_neg (by omega)])
  have hc : cnt 26 = true:=by unfold cnt;first | rfl | (rw [decide_eq_true_eq];omega) | (rw [decide_eq_false_iff_not];omega)
  rw [e]
  have HK:=Lib.hid (fun W=>counted_any 26 W)
  rw [hc] at HK
  clear e hc
  go_enter Tryd.func25,Tryd.ntmps25
  go_wp2_with (go_at_call 44;with_reducible refine (HK.out _).mono ?_;rintro _ _ ⟨rfl,rfl⟩)
  all_goals refine bodyPost_ret (by simp [results,Tryd.results25,go_sem, *];try rfl) rfl ?_
  all_goals first | exact ⟨rfl,by (repeat' first|(with_reducible first|exact blR _ _|assumption|refine blD ?_|refine blN ?_ _)|((with_reducible first|refine blA ?_ ?_ _|refine blS ?_ ?_ _|refine blT (by assumption) ?_ ?_);focus (go_size;done)))⟩ | (refine ⟨?_,by (repeat' first|(with_reducible first|exact blR _ _|assumption|refine blD ?_|refine blN ?_ _)|((with_reducible first|refine blA ?_ ?_ _|refine blS ?_ ?_ _|refine blT (by assumption) ?_ ?_);focus (go_size;done)))⟩;simp_all)
 by_cases c4 : op = 27
 ·subst c4
  have e : tk 27 a = (a,1,0,0,true):=by
   unfold tk
   repeat (first | rw [if_pos (by omega)] | rw [if_neg (by omega)])
  have hc : cnt 27 = true:=by unfold cnt;first | rfl | (rw [decide_eq_true_eq];omega) | (rw [decide_eq_false_iff_not];omega)
  rw [e]
  have HK:=Lib.hid (fun W=>counted_any 27 W)
  rw [hc] at HK
  clear e hc
  go_enter Tryd.func25,Tryd.ntmps25
  go_wp2_with (go_at_call 44;with_reducible refine (HK.out _).mono ?_;rintro _ _ ⟨rfl,rfl⟩)
  all_goals refine bodyPost_ret (by simp [results,Tryd.results25,go_sem, *];try rfl) rfl ?_
  all_goals first | exact ⟨rfl,by (repeat' first|(with_reducible first|exact blR _ _|assumption|refine blD ?_|refine blN ?_ _)|((with_reducible first|refine blA ?_ ?_ _|refine blS ?_ ?_ _|refine blT (by assumption) ?_ ?_);focus (go_size;done)))⟩ | (refine ⟨?_,by (repeat' first|(with_reducible first|exact blR _ _|assumption|refine blD ?_|refine blN ?_ _)|((with_reducible first|refine blA ?_ ?_ _|refine blS ?_ ?_ _|refine blT (by assumption) ?_ ?_);focus (go_size;done)))⟩;simp_all)
 by_cases c5 : op = 101
 ·subst c5
  have e : tk 101 a = (0,0,0,0,true):=by
   unfold tk
   repeat (first | rw [if_pos (by omega)] | rw [if_neg (by omega)])
  have hc : cnt 101 = false:=by unfold cnt;first | rfl | (rw [decide_eq_true_eq];omega) | (rw [decide_eq_false_iff_not];omega)
  rw [e]
  have HK:=Lib.hid (fun W=>counted_any 101 W)
  rw [hc] at HK
  clear e hc
  go_enter Tryd.func25,Tryd.ntmps25
  go_wp2_with (go_at_call 44;with_reducible refine (HK.out _).mono ?_;rintro _ _ ⟨rfl,rfl⟩)
  all_goals refine bodyPost_ret (by simp [results,Tryd.results25,go_sem, *];try rfl) rfl ?_
  all_goals first | exact ⟨rfl,by (repeat' first|(with_reducible first|exact blR _ _|assumption|refine blD ?_|refine blN ?_ _)|((with_reducible first|refine blA ?_ ?_ _|refine blS ?_ ?_ _|refine blT (by assumption) ?_ ?_);focus (go_size;done)))⟩ | (refine ⟨?_,by (repeat' first|(with_reducible first|exact blR _ _|assumption|refine blD ?_|refine blN ?_ _)|((with_reducible first|refine blA ?_ ?_ _|refine blS ?_ ?_ _|refine blT (by assumption) ?_ ?_);focus (go_size;done)))⟩;simp_all)
 by_cases c6 : op = 102
 ·subst c6
  have e : tk 102 a = (1,0,0,0,true):=by
   unfold tk
   repeat (first | rw [if_pos (by omega)] | rw [if_neg (by omega)])
  have hc : cnt 102 = false:=by unfold cnt;first | rfl | (rw [decide_eq_true_eq];omega) | (rw [decide_eq_false_iff_not];omega)
  rw [e]
  have HK:=Lib.hid (fun W=>counted_any 102 W)
  rw [hc] at HK
  clear e hc
  go_enter Tryd.func25,Tryd.ntmps25
  go_wp2_with (go_at_call 44;with_reducible refine (HK.out _).mono ?_;rintro _ _ ⟨rfl,rfl⟩)
  all_goals refine bodyPost_ret (by simp [results,Tryd.results25,go_sem, *];try rfl) rfl ?_
  all_goals first | exact ⟨rfl,by (repeat' first|(with_reducible first|exact blR _ _|assumption|refine blD ?_|refine blN ?_ _)|((with_reducible first|refine blA ?_ ?_ _|refine blS ?_ ?_ _|refine blT (by assumption) ?_ ?_);focus (go_size;done)))⟩ | (refine ⟨?_,by (repeat' first|(with_reducible first|exact blR _ _|assumption|refine blD ?_|refine blN ?_ _)|((with_reducible first|refine blA ?_ ?_ _|refine blS ?_ ?_ _|refine blT (by assumption) ?_ ?_);focus (go_size;done)))⟩;simp_all)
 by_cases c7 : a ≠ 0
 ·have tok:=trivial
  have q25 : (op == 25) = false:=by rw [beq_eq_false_iff_ne];omega
  have r25 : (op != 25) = true:=by rw [bne_iff_ne];omega
  have q36 : (op == 36) = false:=by rw [beq_eq_false_iff_ne];omega
  have r36 : (op != 36) = true:=by rw [bne_iff_ne];omega
  have q101 : (op == 101) = false:=by rw [beq_eq_false_iff_ne];omega
  have r101 : (op != 101) = true:=by rw [bne_iff_ne];omega
  have q102 : (op == 102) = false:=by rw [beq_eq_false_iff_ne];omega
  have r102 : (op != 102) = true:=by rw [bne_iff_ne];omega
  have ra : (a != 0) = true:=by rw [bne_iff_ne];omega
  have e : tk op a = (0,0,0,0,false):=by
   unfold tk
   repeat (first | rw [if_pos (by omega)] | rw [if_neg (by omega)])
  have hc : cnt op = false:=by unfold cnt;first | rfl | (rw [decide_eq_true_eq];omega) | (rw [decide_eq_false_iff_not];omega)
  rw [e]
  have HK:=Lib.hid (fun W=>counted_any op W)
  rw [hc] at HK
  clear e hc
  go_enter Tryd.func25,Tryd.ntmps25
  go_wp2_with (go_at_call 44;with_reducible refine (HK.out _).mono ?_;rintro _ _ ⟨rfl,rfl⟩)
  all_goals refine bodyPost_ret (by simp [results,Tryd.results25,go_sem, *];try rfl) rfl ?_
  all_goals first | exact ⟨rfl,by (repeat' first|(with_reducible first|exact blR _ _|assumption|refine blD ?_|refine blN ?_ _)|((with_reducible first|refine blA ?_ ?_ _|refine blS ?_ ?_ _|refine blT (by assumption) ?_ ?_);focus (go_size;done)))⟩ | (refine ⟨?_,by (repeat' first|(with_reducible first|exact blR _ _|assumption|refine blD ?_|refine blN ?_ _)|((with_reducible first|refine blA ?_ ?_ _|refine blS ?_ ?_ _|refine blT (by assumption) ?_ ?_);focus (go_size;done)))⟩;simp_all)
 obtain rfl : a = 0:=by omega
 by_cases d0 : op = 29
 ·subst d0
  have e : tk 29 0 = (0,1,0,0,true):=by
   unfold tk
   repeat (first | rw [if_pos (by omega)] | rw [if_neg (by omega)])
  have hc : cnt 29 = false:=by unfold cnt;first | rfl | (rw [decide_eq_true_eq];omega) | (rw [decide_eq_false_iff_not];omega)
  rw [e]
  have HK:=Lib.hid (fun W=>counted_any 29 W)
  rw [hc] at HK
  clear e hc
  go_enter Tryd.func25,Tryd.ntmps25
  go_wp2_with (go_at_call 44;with_reducible refine (HK.out _).mono ?_;rintro _ _ ⟨rfl,rfl⟩)
  all_goals refine bodyPost_ret (by simp [results,Tryd.results25,go_sem, *];try rfl) rfl ?_
  all_goals first | exact ⟨rfl,by (repeat' first|(with_reducible first|exact blR _ _|assumption|refine blD ?_|refine blN ?_ _)|((with_reducible first|refine blA ?_ ?_ _|refine blS ?_ ?_ _|refine blT (by assumption) ?_ ?_);focus (go_size;done)))⟩ | (refine ⟨?_,by (repeat' first|(with_reducible first|exact blR _ _|assumption|refine blD ?_|refine blN ?_ _)|((with_reducible first|refine blA ?_ ?_ _|refine blS ?_ ?_ _|refine blT (by assumption) ?_ ?_);focus (go_size;done)))⟩;simp_all)
 by_cases d1 : 1 ≤ op ∧ op ≤ 7
 ·obtain ⟨da,db⟩:=d1
  have q25 : (op == 25) = false:=by rw [beq_eq_false_iff_ne];omega
  have r25 : (op != 25) = true:=by rw [bne_iff_ne];omega
  have q36 : (op == 36) = false:=by rw [beq_eq_false_iff_ne];omega
  have r36 : (op != 36) = true:=by rw [bne_iff_ne];omega
  have q101 : (op == 101) = false:=by rw [beq_eq_false_iff_ne];omega
  have r101 : (op != 101) = true:=by rw [bne_iff_ne];omega
  have q102 : (op == 102) = false:=by rw [beq_eq_false_iff_ne];omega
  have r102 : (op != 102) = true:=by rw [bne_iff_ne];omega
  have q26 : (op == 26) = false:=by rw [beq_eq_false_iff_ne];omega
  have q27 : (op == 27) = false:=by rw [beq_eq_false_iff_ne];omega
  have q8 : (op == 8) = false:=by rw [beq_eq_false_iff_ne];omega
  have q24 : (op == 24) = false:=by rw [beq_eq_false_iff_ne];omega
  have q28 : (op == 28) = false:=by rw [beq_eq_false_iff_ne];omega
  have q37 : (op == 37) = false:=by rw [beq_eq_false_iff_ne];omega
  have q29 : (op == 29) = false:=by rw [beq_eq_false_iff_ne];omega
  have q22 : (op == 22) = false:=by rw [beq_eq_false_iff_ne];omega
  have q35 : (op == 35) = false:=by rw [beq_eq_false_iff_ne];omega
  have q103 : (op == 103) = false:=by rw [beq_eq_false_iff_ne];omega
  have q104 : (op == 104) = false:=by rw [beq_eq_false_iff_ne];omega
  have e : tk op 0 = (0,1,0,0,true):=by
   unfold tk
   repeat (first | rw [if_pos (by omega)] | rw [if_neg (by omega)])
  have hc : cnt op = false:=by unfold cnt;first | rfl | (rw [decide_eq_true_eq];omega) | (rw [decide_eq_false_iff_not];omega)
  rw [e]
  have HK:=Lib.hid (fun W=>counted_any op W)
  rw [hc] at HK
  clear e hc
  go_enter Tryd.func25,Tryd.ntmps25
  go_wp2_with (go_at_call 44;with_reducible refine (HK.out _).mono ?_;rintro _ _ ⟨rfl,rfl⟩)
  all_goals refine bodyPost_ret (by simp [results,Tryd.results25,go_sem, *];try rfl) rfl ?_
  all_goals first | exact ⟨rfl,by (repeat' first|(with_reducible first|exact blR _ _|assumption|refine blD ?_|refine blN ?_ _)|((with_reducible first|refine blA ?_ ?_ _|refine blS ?_ ?_ _|refine blT (by assumption) ?_ ?_);focus (go_size;done)))⟩ | (refine ⟨?_,by (repeat' first|(with_reducible first|exact blR _ _|assumption|refine blD ?_|refine blN ?_ _)|((with_reducible first|refine blA ?_ ?_ _|refine blS ?_ ?_ _|refine blT (by assumption) ?_ ?_);focus (go_size;done)))⟩;simp_all)
 by_cases d2 : op = 8
 ·subst d2
  have e : tk 8 0 = (1,1,0,0,true):=by
   unfold tk
   repeat (first | rw [if_pos (by omega)] | rw [if_neg (by omega)])
  have hc : cnt 8 = false:=by unfold cnt;first | rfl | (rw [decide_eq_true_eq];omega) | (rw [decide_eq_false_iff_not];omega)
  rw [e]
  have HK:=Lib.hid (fun W=>counted_any 8 W)
  rw [hc] at HK
  clear e hc
  go_enter Tryd.func25,Tryd.ntmps25
  go_wp2_with (go_at_call 44;with_reducible refine (HK.out _).mono ?_;rintro _ _ ⟨rfl,rfl⟩)
  all_goals refine bodyPost_ret (by simp [results,Tryd.results25,go_sem, *];try rfl) rfl ?_
  all_goals first | exact ⟨rfl,by (repeat' first|(with_reducible first|exact blR _ _|assumption|refine blD ?_|refine blN ?_ _)|((with_reducible first|refine blA ?_ ?_ _|refine blS ?_ ?_ _|refine blT (by assumption) ?_ ?_);focus (go_size;done)))⟩ | (refine ⟨?_,by (repeat' first|(with_reducible first|exact blR _ _|assumption|refine blD ?_|refine blN ?_ _)|((with_reducible first|refine blA ?_ ?_ _|refine blS ?_ ?_ _|refine blT (by assumption) ?_ ?_);focus (go_size;done)))⟩;simp_all)
 by_cases d3 : op = 24
 ·subst d3
  have e : tk 24 0 = (1,1,0,0,true):=by
   unfold tk
   repeat (first | rw [if_pos (by omega)] | rw [if_neg (by omega)])
  have hc : cnt 24 = false:=by unfold cnt;first | rfl | (rw [decide_eq_true_eq];omega) | (rw [decide_eq_false_iff_not];omega)
  rw [e]
  have HK:=Lib.hid (fun W=>counted_any 24 W)
  rw [hc] at HK
  clear e hc
  go_enter Tryd.func25,Tryd.ntmps25
  go_wp2_with (go_at_call 44;with_reducible refine (HK.out _).mono ?_;rintro _ _ ⟨rfl,rfl⟩)
  all_goals refine bodyPost_ret (by simp [results,Tryd.results25,go_sem, *];try rfl) rfl ?_
  all_goals first | exact ⟨rfl,by (repeat' first|(with_reducible first|exact blR _ _|assumption|refine blD ?_|refine blN ?_ _)|((with_reducible first|refine blA ?_ ?_ _|refine blS ?_ ?_ _|refine blT (by assumption) ?_ ?_);focus (go_size;done)))⟩ | (refine ⟨?_,by (repeat' first|(with_reducible first|exact blR _ _|assumption|refine blD ?_|refine blN ?_ _)|((with_reducible first|refine blA ?_ ?_ _|refine blS ?_ ?_ _|refine blT (by assumption) ?_ ?_);focus (go_size;done)))⟩;simp_all)
 by_cases d4 : op = 28
 ·subst d4
  have e : tk 28 0 = (1,1,0,0,true):=by
   unfold tk
   repeat (first | rw [if_pos (by omega)] | rw [if_neg (by omega)])
  have hc : cnt 28 = false:=by unfold cnt;first | rfl | (rw [decide_eq_true_eq];omega) | (rw [decide_eq_false_iff_not];omega)
  rw [e]
  have HK:=Lib.hid (fun W=>counted_any 28 W)
  rw [hc] at HK
  clear e hc
  go_enter Tryd.func25,Tryd.ntmps25
  go_wp2_with (go_at_call 44;with_reducible refine (HK.out _).mono ?_;rintro _ _ ⟨rfl,rfl⟩)
  all_goals refine bodyPost_ret (by simp [results,Tryd.results25,go_sem, *];try rfl) rfl ?_
  all_goals first | exact ⟨rfl,by (repeat' first|(with_reducible first|exact blR _ _|assumption|refine blD ?_|refine blN ?_ _)|((with_reducible first|refine blA ?_ ?_ _|refine blS ?_ ?_ _|refine blT (by assumption) ?_ ?_);focus (go_size;done)))⟩ | (refine ⟨?_,by (repeat' first|(with_reducible first|exact blR _ _|assumption|refine blD ?_|refine blN ?_ _)|((with_reducible first|refine blA ?_ ?_ _|refine blS ?_ ?_ _|refine blT (by assumption) ?_ ?_);focus (go_size;done)))⟩;simp_all)
 by_cases d5 : op = 37
 ·subst d5
  have e : tk 37 0 = (1,1,0,0,true):=by
   unfold tk
   repeat (first | rw [if_pos (by omega)] | rw [if_neg (by omega)])
  have hc : cnt 37 = false:=by unfold cnt;first | rfl | (rw [decide_eq_true_eq];omega) | (rw [decide_eq_false_iff_not];omega)
  rw [e]
  have HK:=Lib.hid (fun W=>counted_any 37 W)
  rw [hc] at HK
  clear e hc
  go_enter Tryd.func25,Tryd.ntmps25
  go_wp2_with (go_at_call 44;with_reducible refine (HK.out _).mono ?_;rintro _ _ ⟨rfl,rfl⟩)
  all_goals refine bodyPost_ret (by simp [results,Tryd.results25,go_sem, *];try rfl) rfl ?_
  all_goals first | exact ⟨rfl,by (repeat' first|(with_reducible first|exact blR _ _|assumption|refine blD ?_|refine blN ?_ _)|((with_reducible first|refine blA ?_ ?_ _|refine blS ?_ ?_ _|refine blT (by assumption) ?_ ?_);focus (go_size;done)))⟩ | (refine ⟨?_,by (repeat' first|(with_reducible first|exact blR _ _|assumption|refine blD ?_|refine blN ?_ _)|((with_reducible first|refine blA ?_ ?_ _|refine blS ?_ ?_ _|refine blT (by assumption) ?_ ?_);focus (go_size;done)))⟩;simp_all)
 by_cases d6 : 9 ≤ op ∧ op ≤ 20
 ·obtain ⟨da,db⟩:=d6
  have q25 : (op == 25) = false:=by rw [beq_eq_false_iff_ne];omega
  have r25 : (op != 25) = true:=by rw [bne_iff_ne];omega
  have q36 : (op == 36) = false:=by rw [beq_eq_false_iff_ne];omega
  have r36 : (op != 36) = true:=by rw [bne_iff_ne];omega
  have q101 : (op == 101) = false:=by rw [beq_eq_false_iff_ne];omega
  have r101 : (op != 101) = true:=by rw [bne_iff_ne];omega
  have q102 : (op == 102) = false:=by rw [beq_eq_false_iff_ne];omega
  have r102 : (op != 102) = true:=by rw [bne_iff_ne];omega
  have q26 : (op == 26) = false:=by rw [beq_eq_false_iff_ne];omega
  have q27 : (op == 27) = false:=by rw [beq_eq_false_iff_ne];omega
  have q8 : (op == 8) = false:=by rw [beq_eq_false_iff_ne];omega
  have q24 : (op == 24) = false:=by rw [beq_eq_false_iff_ne];omega
  have q28 : (op == 28) = false:=by rw [beq_eq_false_iff_ne];omega
  have q37 : (op == 37) = false:=by rw [beq_eq_false_iff_ne];omega
  have q29 : (op == 29) = false:=by rw [beq_eq_false_iff_ne];omega
  have q22 : (op == 22) = false:=by rw [beq_eq_false_iff_ne];omega
  have q35 : (op == 35) = false:=by rw [beq_eq_false_iff_ne];omega
  have q103 : (op == 103) = false:=by rw [beq_eq_false_iff_ne];omega
  have q104 : (op == 104) = false:=by rw [beq_eq_false_iff_ne];omega
  have e : tk op 0 = (2,1,0,0,true):=by
   unfold tk
   repeat (first | rw [if_pos (by omega)] | rw [if_neg (by omega)])
  have hc : cnt op = false:=by unfold cnt;first | rfl | (rw [decide_eq_true_eq];omega) | (rw [decide_eq_false_iff_not];omega)
  rw [e]
  have HK:=Lib.hid (fun W=>counted_any op W)
  rw [hc] at HK
  clear e hc
  go_enter Tryd.func25,Tryd.ntmps25
  go_wp2_with (go_at_call 44;with_reducible refine (HK.out _).mono ?_;rintro _ _ ⟨rfl,rfl⟩)
  all_goals refine bodyPost_ret (by simp [results,Tryd.results25,go_sem, *];try rfl) rfl ?_
  all_goals first | exact ⟨rfl,by (repeat' first|(with_reducible first|exact blR _ _|assumption|refine blD ?_|refine blN ?_ _)|((with_reducible first|refine blA ?_ ?_ _|refine blS ?_ ?_ _|refine blT (by assumption) ?_ ?_);focus (go_size;done)))⟩ | (refine ⟨?_,by (repeat' first|(with_reducible first|exact blR _ _|assumption|refine blD ?_|refine blN ?_ _)|((with_reducible first|refine blA ?_ ?_ _|refine blS ?_ ?_ _|refine blT (by assumption) ?_ ?_);focus (go_size;done)))⟩;simp_all)
 by_cases d7 : op = 22
 ·subst d7
  have e : tk 22 0 = (3,1,0,0,true):=by
   unfold tk
   repeat (first | rw [if_pos (by omega)] | rw [if_neg (by omega)])
  have hc : cnt 22 = false:=by unfold cnt;first | rfl | (rw [decide_eq_true_eq];omega) | (rw [decide_eq_false_iff_not];omega)
  rw [e]
  have HK:=Lib.hid (fun W=>counted_any 22 W)
  rw [hc] at HK
  clear e hc
  go_enter Tryd.func25,Tryd.ntmps25
  go_wp2_with (go_at_call 44;with_reducible refine (HK.out _).mono ?_;rintro _ _ ⟨rfl,rfl⟩)
  all_goals refine bodyPost_ret (by simp [results,Tryd.results25,go_sem, *];try rfl) rfl ?_
  all_goals first | exact ⟨rfl,by (repeat' first|(with_reducible first|exact blR _ _|assumption|refine blD ?_|refine blN ?_ _)|((with_reducible first|refine blA ?_ ?_ _|refine blS ?_ ?_ _|refine blT (by assumption) ?_ ?_);focus (go_size;done)))⟩ | (refine ⟨?_,by (repeat' first|(with_reducible first|exact blR _ _|assumption|refine blD ?_|refine blN ?_ _)|((with_reducible first|refine blA ?_ ?_ _|refine blS ?_ ?_ _|refine blT (by assumption) ?_ ?_);focus (go_size;done)))⟩;simp_all)
 by_cases d8 : 30 ≤ op ∧ op ≤ 34
 ·obtain ⟨da,db⟩:=d8
  have q25 : (op == 25) = false:=by rw [beq_eq_false_iff_ne];omega
  have r25 : (op != 25) = true:=by rw [bne_iff_ne];omega
  have q36 : (op == 36) = false:=by rw [beq_eq_false_iff_ne];omega
  have r36 : (op != 36) = true:=by rw [bne_iff_ne];omega
  have q101 : (op == 101) = false:=by rw [beq_eq_false_iff_ne];omega
  have r101 : (op != 101) = true:=by rw [bne_iff_ne];omega
  have q102 : (op == 102) = false:=by rw [beq_eq_false_iff_ne];omega
  have r102 : (op != 102) = true:=by rw [bne_iff_ne];omega
  have q26 : (op == 26) = false:=by rw [beq_eq_false_iff_ne];omega
  have q27 : (op == 27) = false:=by rw [beq_eq_false_iff_ne];omega
  have q8 : (op == 8) = false:=by rw [beq_eq_false_iff_ne];omega
  have q24 : (op == 24) = false:=by rw [beq_eq_false_iff_ne];omega
  have q28 : (op == 28) = false:=by rw [beq_eq_false_iff_ne];omega
  have q37 : (op == 37) = false:=by rw [beq_eq_false_iff_ne];omega
  have q29 : (op == 29) = false:=by rw [beq_eq_false_iff_ne];omega
  have q22 : (op == 22) = false:=by rw [beq_eq_false_iff_ne];omega
  have q35 : (op == 35) = false:=by rw [beq_eq_false_iff_ne];omega
  have q103 : (op == 103) = false:=by rw [beq_eq_false_iff_ne];omega
  have q104 : (op == 104) = false:=by rw [beq_eq_false_iff_ne];omega
  have e : tk op 0 = (1,1,0,1,true):=by
   unfold tk
   repeat (first | rw [if_pos (by omega)] | rw [if_neg (by omega)])
  have hc : cnt op = false:=by unfold cnt;first | rfl | (rw [decide_eq_true_eq];omega) | (rw [decide_eq_false_iff_not];omega)
  rw [e]
  have HK:=Lib.hid (fun W=>counted_any op W)
  rw [hc] at HK
  clear e hc
  go_enter Tryd.func25,Tryd.ntmps25
  go_wp2_with (go_at_call 44;with_reducible refine (HK.out _).mono ?_;rintro _ _ ⟨rfl,rfl⟩)
  all_goals refine bodyPost_ret (by simp [results,Tryd.results25,go_sem, *];try rfl) rfl ?_
  all_goals first | exact ⟨rfl,by (repeat' first|(with_reducible first|exact blR _ _|assumption|refine blD ?_|refine blN ?_ _)|((with_reducible first|refine blA ?_ ?_ _|refine blS ?_ ?_ _|refine blT (by assumption) ?_ ?_);focus (go_size;done)))⟩ | (refine ⟨?_,by (repeat' first|(with_reducible first|exact blR _ _|assumption|refine blD ?_|refine blN ?_ _)|((with_reducible first|refine blA ?_ ?_ _|refine blS ?_ ?_ _|refine blT (by assumption) ?_ ?_);focus (go_size;done)))⟩;simp_all)
 by_cases d9 : op = 35
 ·subst d9
  have e : tk 35 0 = (2,1,0,1,true):=by
   unfold tk
   repeat (first | rw [if_pos (by omega)] | rw [if_neg (by omega)])
  have hc : cnt 35 = false:=by unfold cnt;first | rfl | (rw [decide_eq_true_eq];omega) | (rw [decide_eq_false_iff_not];omega)
  rw [e]
  have HK:=Lib.hid (fun W=>counted_any 35 W)
  rw [hc] at HK
  clear e hc
  go_enter Tryd.func25,Tryd.ntmps25
  go_wp2_with (go_at_call 44;with_reducible refine (HK.out _).mono ?_;rintro _ _ ⟨rfl,rfl⟩)
  all_goals refine bodyPost_ret (by simp [results,Tryd.results25,go_sem, *];try rfl) rfl ?_
  all_goals first | exact ⟨rfl,by (repeat' first|(with_reducible first|exact blR _ _|assumption|refine blD ?_|refine blN ?_ _)|((with_reducible first|refine blA ?_ ?_ _|refine blS ?_ ?_ _|refine blT (by assumption) ?_ ?_);focus (go_size;done)))⟩ | (refine ⟨?_,by (repeat' first|(with_reducible first|exact blR _ _|assumption|refine blD ?_|refine blN ?_ _)|((with_reducible first|refine blA ?_ ?_ _|refine blS ?_ ?_ _|refine blT (by assumption) ?_ ?_);focus (go_size;done)))⟩;simp_all)
 by_cases d10 : op = 103
 ·subst d10
  have e : tk 103 0 = (1,0,1,0,true):=by
   unfold tk
   repeat (first | rw [if_pos (by omega)] | rw [if_neg (by omega)])
  have hc : cnt 103 = false:=by unfold cnt;first | rfl | (rw [decide_eq_true_eq];omega) | (rw [decide_eq_false_iff_not];omega)
  rw [e]
  have HK:=Lib.hid (fun W=>counted_any 103 W)
  rw [hc] at HK
  clear e hc
  go_enter Tryd.func25,Tryd.ntmps25
  go_wp2_with (go_at_call 44;with_reducible refine (HK.out _).mono ?_;rintro _ _ ⟨rfl,rfl⟩)
  all_goals refine bodyPost_ret (by simp [results,Tryd.results25,go_sem, *];try rfl) rfl ?_
  all_goals first | exact ⟨rfl,by (repeat' first|(with_reducible first|exact blR _ _|assumption|refine blD ?_|refine blN ?_ _)|((with_reducible first|refine blA ?_ ?_ _|refine blS ?_ ?_ _|refine blT (by assumption) ?_ ?_);focus (go_size;done)))⟩ | (refine ⟨?_,by (repeat' first|(with_reducible first|exact blR _ _|assumption|refine blD ?_|refine blN ?_ _)|((with_reducible first|refine blA ?_ ?_ _|refine blS ?_ ?_ _|refine blT (by assumption) ?_ ?_);focus (go_size;done)))⟩;simp_all)
 by_cases d11 : op = 104
 ·subst d11
  have e : tk 104 0 = (0,0,-1,1,true):=by
   unfold tk
   repeat (first | rw [if_pos (by omega)] | rw [if_neg (by omega)])
  have hc : cnt 104 = false:=by unfold cnt;first | rfl | (rw [decide_eq_true_eq];omega) | (rw [decide_eq_false_iff_not];omega)
  rw [e]
  have HK:=Lib.hid (fun W=>counted_any 104 W)
  rw [hc] at HK
  clear e hc
  go_enter Tryd.func25,Tryd.ntmps25
  go_wp2_with (go_at_call 44;with_reducible refine (HK.out _).mono ?_;rintro _ _ ⟨rfl,rfl⟩)
  all_goals refine bodyPost_ret (by simp [results,Tryd.results25,go_sem, *];try rfl) rfl ?_
  all_goals first | exact ⟨rfl,by (repeat' first|(with_reducible first|exact blR _ _|assumption|refine blD ?_|refine blN ?_ _)|((with_reducible first|refine blA ?_ ?_ _|refine blS ?_ ?_ _|refine blT (by assumption) ?_ ?_);focus (go_size;done)))⟩ | (refine ⟨?_,by (repeat' first|(with_reducible first|exact blR _ _|assumption|refine blD ?_|refine blN ?_ _)|((with_reducible first|refine blA ?_ ?_ _|refine blS ?_ ?_ _|refine blT (by assumption) ?_ ?_);focus (go_size;done)))⟩;simp_all)
 by_cases d12 : op = 21
 ·subst d12
  have e : tk 21 0 = (0,0,0,0,false):=by
   unfold tk
   repeat (first | rw [if_pos (by omega)] | rw [if_neg (by omega)])
  have hc : cnt 21 = false:=by unfold cnt;first | rfl | (rw [decide_eq_true_eq];omega) | (rw [decide_eq_false_iff_not];omega)
  rw [e]
  have HK:=Lib.hid (fun W=>counted_any 21 W)
  rw [hc] at HK
  clear e hc
  go_enter Tryd.func25,Tryd.ntmps25
  go_wp2_with (go_at_call 44;with_reducible refine (HK.out _).mono ?_;rintro _ _ ⟨rfl,rfl⟩)
  all_goals refine bodyPost_ret (by simp [results,Tryd.results25,go_sem, *];try rfl) rfl ?_
  all_goals first | exact ⟨rfl,by (repeat' first|(with_reducible first|exact blR _ _|assumption|refine blD ?_|refine blN ?_ _)|((with_reducible first|refine blA ?_ ?_ _|refine blS ?_ ?_ _|refine blT (by assumption) ?_ ?_);focus (go_size;done)))⟩ | (refine ⟨?_,by (repeat' first|(with_reducible first|exact blR _ _|assumption|refine blD ?_|refine blN ?_ _)|((with_reducible first|refine blA ?_ ?_ _|refine blS ?_ ?_ _|refine blT (by assumption) ?_ ?_);focus (go_size;done)))⟩;simp_all)
 by_cases d13 : op = 23
 ·subst d13
  have e : tk 23 0 = (0,0,0,0,false):=by
   unfold tk
   repeat (first | rw [if_pos (by omega)] | rw [if_neg (by omega)])
  have hc : cnt 23 = false:=by unfold cnt;first | rfl | (rw [decide_eq_true_eq];omega) | (rw [decide_eq_false_iff_not];omega)
  rw [e]
  have HK:=Lib.hid (fun W=>counted_any 23 W)
  rw [hc] at HK
  clear e hc
  go_enter Tryd.func25,Tryd.ntmps25
  go_wp2_with (go_at_call 44;with_reducible refine (HK.out _).mono ?_;rintro _ _ ⟨rfl,rfl⟩)
  all_goals refine bodyPost_ret (by simp [results,Tryd.results25,go_sem, *];try rfl) rfl ?_
  all_goals first | exact ⟨rfl,by (repeat' first|(with_reducible first|exact blR _ _|assumption|refine blD ?_|refine blN ?_ _)|((with_reducible first|refine blA ?_ ?_ _|refine blS ?_ ?_ _|refine blT (by assumption) ?_ ?_);focus (go_size;done)))⟩ | (refine ⟨?_,by (repeat' first|(with_reducible first|exact blR _ _|assumption|refine blD ?_|refine blN ?_ _)|((with_reducible first|refine blA ?_ ?_ _|refine blS ?_ ?_ _|refine blT (by assumption) ?_ ?_);focus (go_size;done)))⟩;simp_all)
 by_cases d14 : op ≤ 0
 ·have tok:=trivial
  have q25 : (op == 25) = false:=by rw [beq_eq_false_iff_ne];omega
  have r25 : (op != 25) = true:=by rw [bne_iff_ne];omega
  have q36 : (op == 36) = false:=by rw [beq_eq_false_iff_ne];omega
  have r36 : (op != 36) = true:=by rw [bne_iff_ne];omega
  have q101 : (op == 101) = false:=by rw [beq_eq_false_iff_ne];omega
  have r101 : (op != 101) = true:=by rw [bne_iff_ne];omega
  have q102 : (op == 102) = false:=by rw [beq_eq_false_iff_ne];omega
  have r102 : (op != 102) = true:=by rw [bne_iff_ne];omega
  have q26 : (op == 26) = false:=by rw [beq_eq_false_iff_ne];omega
  have q27 : (op == 27) = false:=by rw [beq_eq_false_iff_ne];omega
  have q8 : (op == 8) = false:=by rw [beq_eq_false_iff_ne];omega
  have q24 : (op == 24) = false:=by rw [beq_eq_false_iff_ne];omega
  have q28 : (op == 28) = false:=by rw [beq_eq_false_iff_ne];omega
  have q37 : (op == 37) = false:=by rw [beq_eq_false_iff_ne];omega
  have q29 : (op == 29) = false:=by rw [beq_eq_false_iff_ne];omega
  have q22 : (op == 22) = false:=by rw [beq_eq_false_iff_ne];omega
  have q35 : (op == 35) = false:=by rw [beq_eq_false_iff_ne];omega
  have q103 : (op == 103) = false:=by rw [beq_eq_false_iff_ne];omega
  have q104 : (op == 104) = false:=by rw [beq_eq_false_iff_ne];omega
  have e : tk op 0 = (0,0,0,0,false):=by
   unfold tk
   repeat (first | rw [if_pos (by omega)] | rw [if_neg (by omega)])
  have hc : cnt op = false:=by unfold cnt;first | rfl | (rw [decide_eq_true_eq];omega) | (rw [decide_eq_false_iff_not];omega)
  rw [e]
  have HK:=Lib.hid (fun W=>counted_any op W)
  rw [hc] at HK
  clear e hc
  go_enter Tryd.func25,Tryd.ntmps25
  go_wp2_with (go_at_call 44;with_reducible refine (HK.out _).mono ?_;rintro _ _ ⟨rfl,rfl⟩)
  all_goals refine bodyPost_ret (by simp [results,Tryd.results25,go_sem, *];try rfl) rfl ?_
  all_goals first | exact ⟨rfl,by (repeat' first|(with_reducible first|exact blR _ _|assumption|refine blD ?_|refine blN ?_ _)|((with_reducible first|refine blA ?_ ?_ _|refine blS ?_ ?_ _|refine blT (by assumption) ?_ ?_);focus (go_size;done)))⟩ | (refine ⟨?_,by (repeat' first|(with_reducible first|exact blR _ _|assumption|refine blD ?_|refine blN ?_ _)|((with_reducible first|refine blA ?_ ?_ _|refine blS ?_ ?_ _|refine blT (by assumption) ?_ ?_);focus (go_size;done)))⟩;simp_all)
 by_cases d15 : 105 ≤ op
 ·have tok:=trivial
  have q25 : (op == 25) = false:=by rw [beq_eq_false_iff_ne];omega
  have r25 : (op != 25) = true:=by rw [bne_iff_ne];omega
  have q36 : (op == 36) = false:=by rw [beq_eq_false_iff_ne];omega
  have r36 : (op != 36) = true:=by rw [bne_iff_ne];omega
  have q101 : (op == 101) = false:=by rw [beq_eq_false_iff_ne];omega
  have r101 : (op != 101) = true:=by rw [bne_iff_ne];omega
  have q102 : (op == 102) = false:=by rw [beq_eq_false_iff_ne];omega
  have r102 : (op != 102) = true:=by rw [bne_iff_ne];omega
  have q26 : (op == 26) = false:=by rw [beq_eq_false_iff_ne];omega
  have q27 : (op == 27) = false:=by rw [beq_eq_false_iff_ne];omega
  have q8 : (op == 8) = false:=by rw [beq_eq_false_iff_ne];omega
  have q24 : (op == 24) = false:=by rw [beq_eq_false_iff_ne];omega
  have q28 : (op == 28) = false:=by rw [beq_eq_false_iff_ne];omega
  have q37 : (op == 37) = false:=by rw [beq_eq_false_iff_ne];omega
  have q29 : (op == 29) = false:=by rw [beq_eq_false_iff_ne];omega
  have q22 : (op == 22) = false:=by rw [beq_eq_false_iff_ne];omega
  have q35 : (op == 35) = false:=by rw [beq_eq_false_iff_ne];omega
  have q103 : (op == 103) = false:=by rw [beq_eq_false_iff_ne];omega
  have q104 : (op == 104) = false:=by rw [beq_eq_false_iff_ne];omega
  have e : tk op 0 = (0,0,0,0,false):=by
   unfold tk
   repeat (first | rw [if_pos (by omega)] | rw [if_neg (by omega)])
  have hc : cnt op = false:=by unfold cnt;first | rfl | (rw [decide_eq_true_eq];omega) | (rw [decide_eq_false_iff_not];omega)
  rw [e]
  have HK:=Lib.hid (fun W=>counted_any op W)
  rw [hc] at HK
  clear e hc
  go_enter Tryd.func25,Tryd.ntmps25
  go_wp2_with (go_at_call 44;with_reducible refine (HK.out _).mono ?_;rintro _ _ ⟨rfl,rfl⟩)
  all_goals refine bodyPost_ret (by simp [results,Tryd.results25,go_sem, *];try rfl) rfl ?_
  all_goals first | exact ⟨rfl,by (repeat' first|(with_reducible first|exact blR _ _|assumption|refine blD ?_|refine blN ?_ _)|((with_reducible first|refine blA ?_ ?_ _|refine blS ?_ ?_ _|refine blT (by assumption) ?_ ?_);focus (go_size;done)))⟩ | (refine ⟨?_,by (repeat' first|(with_reducible first|exact blR _ _|assumption|refine blD ?_|refine blN ?_ _)|((with_reducible first|refine blA ?_ ?_ _|refine blS ?_ ?_ _|refine blT (by assumption) ?_ ?_);focus (go_size;done)))⟩;simp_all)
 have da : 38 ≤ op:=by omega
 have db : op ≤ 100:=by omega
 have q25 : (op == 25) = false:=by rw [beq_eq_false_iff_ne];omega
 have r25 : (op != 25) = true:=by rw [bne_iff_ne];omega
 have q36 : (op == 36) = false:=by rw [beq_eq_false_iff_ne];omega
 have r36 : (op != 36) = true:=by rw [bne_iff_ne];omega
 have q101 : (op == 101) = false:=by rw [beq_eq_false_iff_ne];omega
 have r101 : (op != 101) = true:=by rw [bne_iff_ne];omega
 have q102 : (op == 102) = false:=by rw [beq_eq_false_iff_ne];omega
 have r102 : (op != 102) = true:=by rw [bne_iff_ne];omega
 have q26 : (op == 26) = false:=by rw [beq_eq_false_iff_ne];omega
 have q27 : (op == 27) = false:=by rw [beq_eq_false_iff_ne];omega
 have q8 : (op == 8) = false:=by rw [beq_eq_false_iff_ne];omega
 have q24 : (op == 24) = false:=by rw [beq_eq_false_iff_ne];omega
 have q28 : (op == 28) = false:=by rw [beq_eq_false_iff_ne];omega
 have q37 : (op == 37) = false:=by rw [beq_eq_false_iff_ne];omega
 have q29 : (op == 29) = false:=by rw [beq_eq_false_iff_ne];omega
 have q22 : (op == 22) = false:=by rw [beq_eq_false_iff_ne];omega
 have q35 : (op == 35) = false:=by rw [beq_eq_false_iff_ne];omega
 have q103 : (op == 103) = false:=by rw [beq_eq_false_iff_ne];omega
 have q104 : (op == 104) = false:=by rw [beq_eq_false_iff_ne];omega
 have e : tk op 0 = (0,0,0,0,false):=by
  unfold tk
  repeat (first | rw [if_pos (by omega)] | rw [if_neg (by omega)])
 have hc : cnt op = false:=by unfold cnt;first | rfl | (rw [decide_eq_true_eq];omega) | (rw [decide_eq_false_iff_not];omega)
 rw [e]
 have HK:=Lib.hid (fun W=>counted_any op W)
 rw [hc] at HK
 clear e hc
 go_enter Tryd.func25,Tryd.ntmps25
 go_wp2_with (go_at_call 44;with_reducible refine (HK.out _).mono ?_;rintro _ _ ⟨rfl,rfl⟩)
 all_goals refine bodyPost_ret (by simp [results,Tryd.results25,go_sem, *];try rfl) rfl ?_
 all_goals first | exact ⟨rfl,by (repeat' first|(with_reducible first|exact blR _ _|assumption|refine blD ?_|refine blN ?_ _)|((with_reducible first|refine blA ?_ ?_ _|refine blS ?_ ?_ _|refine blT (by assumption) ?_ ?_);focus (go_size;done)))⟩ | (refine ⟨?_,by (repeat' first|(with_reducible first|exact blR _ _|assumption|refine blD ?_|refine blN ?_ _)|((with_reducible first|refine blA ?_ ?_ _|refine blS ?_ ?_ _|refine blT (by assumption) ?_ ?_);focus (go_size;done)))⟩;simp_all)
end Go.Proofs.YtnhmplfonkjfoaaDoor



namespace Go.Proofs.YtnhmplfonkjfoaaDoor
open Go.RowKit

def pairs (is : List InsD) : List (Int × Int):=is.map fun i=>(i.op,i.a)
theorem ov_low {B k : Nat} (h : k < B) : ov B k = 0:=if_pos h
theorem ov_up {B k : Nat} (h : B < k) : ov B k = 2:=by unfold ov;rw [if_neg (by omega),if_neg (by omega)]
theorem Stt.made (w : World) (n : Nat) : Stt (w.alloc (.cells (madeCells #[.bool false,.int .i64 0,.int .i64 0] (n * 3)) 60)) (ov w.heap.size) 1 w.heap.size (List.replicate n none):=by
 refine ⟨(madeCells #[.bool false,.int .i64 0,.int .i64 0] (n * 3)).toList,⟨?_,ov_self _⟩,by rw [Array.length_toList,size_madeCells,List.length_replicate],fun r hr=>?_⟩
 ·have:=Bk.new w 60 (madeCells #[.bool false,.int .i64 0,.int .i64 0] (n * 3)).toList
  rwa [Array.toArray_toList] at this
 ·rw [List.length_replicate] at hr
  have e : (List.replicate n (none : Option Way)).getD r none = none:=by rw [List.getD_eq_getElem?_getD,List.getElem?_replicate];split <;> rfl
  rw [e]
  exact ⟨made_at _ _ _ n r 0 hr (by decide),made_at _ _ _ n r 1 hr (by decide),made_at _ _ _ n r 2 hr (by decide)⟩
theorem pairs_length (is : List InsD) : (pairs is).length = is.length:=by simp [pairs]
theorem pairs_drop {is : List InsD} {t : Nat} (h : t < is.length) : (pairs is).drop t = ((ig is t).op,(ig is t).a) :: (pairs is).drop (t + 1):=by
 have e : (pairs is)[t]'(by rw [pairs_length];exact h) = ((ig is t).op,(ig is t).a):=by
  unfold pairs ig
  rw [List.getElem_map,List.getD_eq_getElem?_getD,List.getElem?_eq_getElem h];rfl
 rw [List.drop_eq_getElem_cons (by rw [pairs_length];exact h),e]
theorem pairs_end (is : List InsD) : (pairs is).drop is.length = []:=by rw [← pairs_length];exact List.drop_length
theorem info_state : (Tryd.prog.info? 60).map (fun i=>(i.zero,i.size,i.bytes)) = some (some (.agg #[.bool false,.int .i64 0,.int .i64 0]),3,24):=by kernel_rfl
theorem vGo_end (n i : Nat) (f m : Int) (S : St) : vGo n f [] i S m = if (oB (S.getD n none) == true && (oH (S.getD n none) == 1 && oE (S.getD n none) == f)) = true then (max m 1,0) else (0,2):=by
 unfold vGo
 cases S.getD n none with
 | none=>simp [oB]
 | some x =>
  obtain ⟨x1,x2⟩:=x
  by_cases h1 : x1 = 1 <;> by_cases h2 : x2 = f <;> simp [oB,oH,oE,h1,h2]
def fB (b : Bool) : Int:=if b = true then 1 else 0
def VerPost (is : List InsD) (b : Bool) (w : World) (e : Ending) (w' : World) : Prop:=e = .returned (.tuple #[.int .i64 (verS (pairs is) (fB b)).1,.int .i64 (verS (pairs is) (fB b)).2]) ∧ Below w.heap.size w w'
set_option maxHeartbeats 1000000 in
theorem verify_long (is : List InsD) (v : Value) (b : Bool) (w : World) (h : Cod w v is) (hl : 600 < is.length) : Calls Tryd.prog 14 #[v,.bool b] w (VerPost is b w):=by
 have HR : Hid (verS (pairs is) (fB b) = (0,6)):=Lib.hid (by unfold verS;rw [if_pos (by rw [pairs_length];exact hl)])
 obtain ⟨A,C,rfl,h2,h3⟩:=h
 have hl2 : (600 : Int) < (is.length : Int):=by omega
 clear h3 h2
 go_enter Tryd.func14,Tryd.ntmps14
 go_wp2_with fail
 go_ret2
 exact ⟨by rw [HR.out];rfl,Below.refl _ _⟩
end Go.Proofs.YtnhmplfonkjfoaaDoor



namespace Go.Proofs.YtnhmplfonkjfoaaDoor
open Go.RowKit

def wg (l : List Way) (r : Nat) : Way:=l.getD r (0,0)
theorem wcs_get : ∀ (l : List Way) (r : Nat),r < l.length → (wcs l)[r * 2]? = some (.int .i64 (wg l r).1) ∧ (wcs l)[r * 2 + 1]? = some (.int .i64 (wg l r).2)
 | [],r,h=>absurd h (by simp)
 | x :: l,0,_=>⟨rfl,rfl⟩
 | x :: l,r + 1,h=>by
  obtain ⟨a,b⟩:=wcs_get l r (by simpa using h)
  have e1 : (r + 1) * 2 = r * 2 + 2:=by omega
  rw [e1]
  exact ⟨a,b⟩
def Wyl (w : World) (v : Value) (l : List Way) : Prop:=Lsn 2 (fun r=>wayCs (wg l r)) w v l.length
theorem Ro.wyl {w : World} {o : Nat → Nat} {lab : Nat} {t : TypeId} {v : Value} {l : List Way} (h : Ro w o lab t 2 v l.length (wcs l)) : Wyl w v l:=by
 obtain ⟨A,C,h1,h2,_,h4⟩:=h.sl
 refine ⟨A,C,h1,h2,fun r hr=>?_⟩
 obtain ⟨b,o',h5,h6⟩:=h4 (r * 2) (by omega)
 refine ⟨b,o',h5,fun j hj=>?_⟩
 obtain ⟨b',o'',h5',h7⟩:=h4 (r * 2 + j) (by have : j < 2:=hj;omega)
 rw [h5] at h5'
 injection h5' with e
 injection e with e1 e2
 subst e1 e2
 rw [Nat.add_assoc,h7]
 obtain ⟨a,b2⟩:=wcs_get l r hr
 have hj' : j = 0 ∨ j = 1:=by have : j < 2:=hj;omega
 rcases hj' with rfl | rfl
 ·exact a
 ·exact b2
theorem alike_iff {l : List Way} : alikeB l = true ↔ 0 < l.length ∧ ∀ r,r < l.length → wg l r = wg l 0:=by
 cases l with
 | nil=>simp [alikeB]
 | cons x r =>
  simp only [alikeB,List.all_eq_true,decide_eq_true_eq]
  constructor
  ·intro h
   refine ⟨by simp,fun k hk=>?_⟩
   cases k with
   | zero=>rfl
   | succ k =>
    refine h _ ?_
    have e : wg (x :: r) (k + 1) = r[k]'(by simpa using hk):=by
     unfold wg;rw [List.getD_eq_getElem?_getD,List.getElem?_cons_succ,List.getElem?_eq_getElem (by simpa using hk)];rfl
    rw [e]
    exact List.getElem_mem _
  ·rintro ⟨_,h⟩ y hy
   obtain ⟨k,hk,rfl⟩:=List.mem_iff_getElem.1 hy
   have e : wg (x :: r) (k + 1) = r[k]:=by
    unfold wg;rw [List.getD_eq_getElem?_getD,List.getElem?_cons_succ,List.getElem?_eq_getElem hk];rfl
   have:=h (k + 1) (by simpa using hk)
   rw [e] at this
   exact this
theorem head_wg {l : List Way} (h : 0 < l.length) : l.head? = some (wg l 0):=by
 cases l with
 | nil=>exact absurd h (by simp)
 | cons x r=>rfl
set_option maxRecDepth 100000 in
theorem neq_way (c d e f : Int) (W : World) : (binOp .neq 52 (.agg #[.int .i64 c,.int .i64 e]) (.agg #[.int .i64 d,.int .i64 f])).run Tryd.prog W = .ok (.bool (!(c == d && e == f))) W:=by
 go_simp
 by_cases h1 : c = d <;> by_cases h2 : e = f <;> simp [h1,h2]
set_option maxHeartbeats 1000000 in
theorem alike_q (l : List Way) (v : Value) (w : World) (h : Wyl w v l) : Calls Tryd.prog 24 #[v] w fun e w'=>e = .returned (.bool (alikeB l)) ∧ ∃ nn,w' = w.drewN nn:=by
 have HW:=Lib.hid h
 obtain ⟨A,C,rfl,h2,_⟩:=h
 unfold maxLen at h2
 obtain ⟨z,hz⟩ : ∃ z,z = alikeB l:=⟨_,rfl⟩
 have HZ : Hid (z = true ↔ 0 < l.length ∧ ∀ r,r < l.length → wg l r = wg l 0):=Lib.hid (by rw [hz];exact alike_iff)
 rw [← hz]
 clear hz
 go_enter Tryd.func24,Tryd.ntmps24
 go_wp2_with fail
 go_loopg [3] l.length (fun k i wr=>∃ t : Nat,k + t = l.length ∧ i = .int .i64 t ∧ Hid (∀ r,r < t → wg l r = wg l 0) ∧ Hid (∃ m,wr = w.drewN m))
 case atStart=>exact ⟨0,by omega,rfl,Lib.hid (fun r hr=>absurd hr (Nat.not_lt_zero _)),Lib.hid ⟨0,rfl⟩⟩
 case round =>
  obtain ⟨t,hk,rfl,HA,HD⟩:=hrel
  have HK:=Lib.hid hk
  have htn : t ≤ l.length:=by omega
  clear hk
  obtain ⟨md,hmd⟩:=HD.out
  subst hmd
  by_cases hlt : t < l.length
  ·obtain ⟨b1,o1,rfl,a1⟩:=HW.out.at hlt
   obtain ⟨b2,o2,e2,a2⟩:=HW.out.at (show 0 < l.length by omega)
   injection e2 with e2
   injection e2 with e3 e4
   subst e3 e4
   obtain ⟨x1,x2⟩:=a1.way
   obtain ⟨y1,y2⟩:=a2.way
   rw [Nat.zero_mul,Nat.add_zero] at y1 y2
   have r1 : ∀ W,(binOp .neq 52 (.agg #[.int .i64 (wg l t).1,.int .i64 (wg l t).2]) (.agg #[.int .i64 (wg l 0).1,.int .i64 (wg l 0).2])).run Tryd.prog W = .ok (.bool (!((wg l t).1 == (wg l 0).1 && (wg l t).2 == (wg l 0).2))) W:=fun W=>neq_way _ _ _ _ W
   have HE : Hid (((wg l t).1 == (wg l 0).1 && (wg l t).2 == (wg l 0).2) = true ↔ wg l t = wg l 0):=Lib.hid (by
    rw [Prod.ext_iff];simp)
   generalize ((wg l t).1 == (wg l 0).1 && (wg l t).2 == (wg l 0).2) = q at *
   generalize (wg l t).1 = u1 at *
   generalize (wg l t).2 = u2 at *
   generalize (wg l 0).1 = u3 at *
   generalize (wg l 0).2 = u4 at *
   clear a1 a2
   cases q with
   | true =>
    simp only [Bool.not_true] at r1
    go_wp2_with fail
    go_quiet (fail)
    go_wp2_with fail
    go_roundg (gk - 1)
    case measure=>have:=HK.out;omega
    case rel =>
     refine ⟨t + 1,by have:=HK.out;omega,by go_num,Lib.hid (fun r hr=>?_),Lib.hid ⟨_,rfl⟩⟩
     by_cases e : r = t
     ·subst e;exact HE.out.1 (by simp)
     ·exact HA.out r (by omega)
   | false =>
    simp only [Bool.not_false] at r1
    have hz : z = false:=by
     cases z with
     | false=>rfl
     | true=>exact absurd (HE.out.2 ((HZ.out.1 rfl).2 t hlt)) (by simp)
    subst hz
    go_wp2_with fail
    go_quiet (fail)
    go_wp2_with fail
    go_ret
    exact ⟨rfl,by first | exact ⟨_,rfl⟩ | exact ⟨_,(World.drewN_drewN _ _ _)⟩⟩
  ·obtain rfl : t = l.length:=by omega
   have hz : z = decide (0 < l.length):=by
    rw [Bool.eq_iff_iff,HZ.out,decide_eq_true_eq]
    exact ⟨fun h=>h.1,fun h=>⟨h,HA.out⟩⟩
   subst hz
   clear hlt
   go_wp2_with fail
   go_ret
   exact ⟨ret_bool (by simp),by first | exact ⟨_,rfl⟩ | exact ⟨_,(World.drewN_drewN _ _ _)⟩⟩
theorem alike_any (l : List Way) (v : Value) (w : World) (h : Wyl w v l) : Calls Tryd.prog 24 #[v] w fun e w'=>e = .returned (.bool (alikeB l)) ∧ Below w.heap.size w w' :=
 (alike_q l v w h).mono fun _ _ ⟨he,n,hw⟩=>⟨he,by rw [hw];exact below_drewN (Below.refl _ _) n⟩
end Go.Proofs.YtnhmplfonkjfoaaDoor



namespace Go.Proofs.YtnhmplfonkjfoaaDoor
open Go.RowKit

section
variable {w0 : World} {g gF : Nat} {f : Int} {o o' : Nat → Nat} {wr w' : World} {vs : List Value} {W : Wy}
theorem Wym.wyl (h : Wym w0 g gF f o wr vs W) {k : Nat} (hk : k < W.length) : Wyl wr (vs.getD k undef) (W.getD k []):=(h.rows k hk).wyl
end
section
variable {n i : Nat} {f op a m : Int} {r : List (Int × Int)} {W : Wy} {x : Way}
theorem dGo_off (hc : alikeB (W.getD i []) = false) : dGo n f ((op,a) :: r) i W m = (0,2):=by
 unfold dGo
 split
 ·rfl
 ·rw [if_neg (fun hh=>by rw [hc] at hh;exact Bool.noConfusion hh.2.1)]
theorem dGo_no (hc : (tk op a).2.2.2.2 = false) : dGo n f ((op,a) :: r) i W m = (0,2):=by
 unfold dGo
 split
 ·rfl
 ·rw [if_neg (fun hh=>by rw [hc] at hh;exact Bool.noConfusion hh.1)]
theorem dGo_bad2 (hh : (W.getD i []).head? = some x) (hc : ¬ ((tk op a).1 ≤ x.1 ∧ (tk op a).2.2.2.1 ≤ x.2)) : dGo n f ((op,a) :: r) i W m = (0,2):=by
 unfold dGo
 rw [hh]
 dsimp only
 rw [if_neg (fun h=>hc h.2.2)]
theorem dGo_out (hh : (W.getD i []).head? = some x) (hj : isJ op = true) (hb : ¬ ((i : Int) < a ∧ a ≤ n)) : dGo n f ((op,a) :: r) i W m = (0,2):=by
 unfold dGo
 rw [hh]
 dsimp only
 split
 ·rw [if_pos ⟨hj,hb⟩]
 ·rfl
def wStep (op a : Int) (i : Nat) (W : Wy) (x : Way) : Wy :=
 let W1:=if isJ op = true then put W a.toNat (after op a x) else W
 if op = 101 then W1 else put W1 (i + 1) (after op a x)
theorem dGo_go (hh : (W.getD i []).head? = some x) (ha : alikeB (W.getD i []) = true) (hc : (tk op a).2.2.2.2 = true ∧ (tk op a).1 ≤ x.1 ∧ (tk op a).2.2.2.1 ≤ x.2) (hb : isJ op = true → (i : Int) < a ∧ a ≤ n) : dGo n f ((op,a) :: r) i W m = dGo n f r (i + 1) (wStep op a i W x) (max m x.1):=by
 rw [dGo]
 rw [hh]
 dsimp only
 rw [if_pos ⟨hc.1,ha,hc.2⟩,if_neg (fun h=>h.2 (hb h.1))]
 rfl
end
theorem Wym.val {w0 : World} {g gF : Nat} {f : Int} {o : Nat → Nat} {wr : World} {vs : List Value} {W : Wy} (h : Wym w0 g gF f o wr vs W) {k : Nat} (hk : k < W.length) : vs[k]? = some (vs.getD k undef):=by
 rw [List.getElem?_eq_getElem (by rw [h.len];exact hk),List.getD_eq_getElem?_getD,List.getElem?_eq_getElem (by rw [h.len];exact hk)];rfl
theorem news_new (w : World) (x y : Value) (t : TypeId) : ∀ (j : Nat) (u : Value),[x,y][j]? = some u → (w.alloc (.cells #[x,y] t)).cell? ((⟨w.heap.size,0,none⟩ : Addr).add j) = some u:=fun j u hj=>by
 have hb:=Bk.new w t [x,y]
 match j with
 | 0=>exact hb.cell 0 hj
 | 1=>exact hb.cell 1 hj
 | j + 2=>simp at hj
theorem news_newd (w : World) (x y : Value) (t : TypeId) : ∀ (j : Nat) (u : Value),[x,y][j]? = some u → ((w.alloc (.cells #[x,y] t)).drew).cell? ((⟨w.heap.size,0,none⟩ : Addr).add j) = some u:=news_new w x y t
theorem two_cells (a b : Int) : ∀ u ∈ [Value.int .i64 a,Value.int .i64 b],u.oneCell' = true:=fun u hu=>by
 simp only [List.mem_cons,List.mem_nil_iff,or_false] at hu
 rcases hu with rfl | rfl <;> rfl
theorem put_mem {W : Wy} {k j : Nat} {x y : Way} (hk : k < W.length) (h : y ∈ (put W k x).getD j []) : y = x ∨ y ∈ W.getD j []:=by
 rw [getD_put W k j x hk] at h
 split at h
 ·rename_i e;subst e
  rcases List.mem_append.1 h with h | h
  ·exact .inr h
  ·exact .inl (List.mem_singleton.1 h)
 ·exact .inr h
theorem put_len {W : Wy} {k j b : Nat} {x : Way} (hk : k < W.length) (h : (W.getD j []).length ≤ b) : ((put W k x).getD j []).length ≤ b + 1:=by
 rw [getD_put W k j x hk]
 split
 ·rename_i e;subst e
  rw [List.length_append,List.length_singleton];omega
 ·omega
theorem info_way : (Tryd.prog.info? 52).map (fun i=>(i.zero,i.size,i.bytes)) = some (some (.agg #[.int .i64 0,.int .i64 0]),2,16):=by kernel_rfl
end Go.Proofs.YtnhmplfonkjfoaaDoor

