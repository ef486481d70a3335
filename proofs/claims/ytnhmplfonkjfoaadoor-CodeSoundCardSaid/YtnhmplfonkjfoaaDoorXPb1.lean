/- What this law reaches beyond the common contracts, part 1. -/
import Derived.BigQuiet
import Derived.OwnWalk
import Derived.Lib.SlicesS
import Derived.BigRegion
import Derived.Deep.DeepCutAuto
import Derived.Test.YtnhmplfonkjfoaaDoorM1
set_option linter.unusedSimpArgs false
set_option linter.unusedVariables false


namespace Go.Proofs.YtnhmplfonkjfoaaDoor
open Go.RowKit

def tk (op a : Int) : Int × Int × Int × Int × Bool :=
 if a < 0 ∨ (op = 36 ∧ a < 1) ∨ (op = 25 ∧ 8 < a) then (0,0,0,0,false)
 else if ¬ (op = 25 ∨ op = 26 ∨ op = 27 ∨ op = 36) ∧ op ≠ 101 ∧ op ≠ 102 ∧ a ≠ 0 then (0,0,0,0,false)
 else if op = 25 ∨ op = 26 ∨ op = 27 ∨ op = 36 then (a,1,0,0,true)
 else if (1 ≤ op ∧ op ≤ 7) ∨ op = 29 then (0,1,0,0,true)
 else if op = 8 ∨ op = 24 ∨ op = 28 ∨ op = 37 then (1,1,0,0,true)
 else if 9 ≤ op ∧ op ≤ 20 then (2,1,0,0,true)
 else if op = 22 then (3,1,0,0,true)
 else if 30 ≤ op ∧ op ≤ 34 then (1,1,0,1,true)
 else if op = 35 then (2,1,0,1,true)
 else if op = 101 then (0,0,0,0,true)
 else if op = 102 then (1,0,0,0,true)
 else if op = 103 then (1,0,1,0,true)
 else if op = 104 then (0,0,-1,1,true)
 else (0,0,0,0,false)
end Go.Proofs.YtnhmplfonkjfoaaDoor



namespace Go.Proofs.YtnhmplfonkjfoaaDoor

def note (S : St) (k : Nat) (x : Way) : Option St :=
 match S.getD k none with
 | none=>some (S.set k (some x))
 | some y=>if y = x then some S else none
def after (op a : Int) (x : Way) : Way:=(x.1 - (tk op a).1 + (tk op a).2.1,x.2 + (tk op a).2.2.1)
def isJ (op : Int) : Bool:=decide (op = 101 ∨ op = 102)
def vGo (n : Nat) (f : Int) : List (Int × Int) → Nat → St → Int → Int × Int
 | [],_,S,m=>if S.getD n none = some (1,f) then (max m 1,0) else (0,2)
 | (op,a) :: r,i,S,m =>
  match S.getD i none with
  | none=>(0,2)
  | some x =>
   if (tk op a).2.2.2.2 = true ∧ (tk op a).1 ≤ x.1 ∧ (tk op a).2.2.2.1 ≤ x.2 then
    match (if isJ op = true then (if (i : Int) < a ∧ a ≤ n then note S a.toNat (after op a x) else none) else some S) with
    | none=>(0,2)
    | some S1 =>
     match (if op = 101 then some S1 else note S1 (i + 1) (after op a x)) with
     | none=>(0,2)
     | some S2=>vGo n f r (i + 1) S2 (max m x.1)
   else (0,2)
def verS (is : List (Int × Int)) (f : Int) : Int × Int:=if 600 < is.length then (0,6) else vGo is.length f is 0 (some (0,f) :: List.replicate is.length none) 0
def TB (a : Int) (z : Int × Int × Int × Int × Bool) : Prop:=z.2.2.2.2 = true → 0 ≤ z.1 ∧ 0 ≤ z.2.1 ∧ z.2.1 ≤ 1 ∧ -1 ≤ z.2.2.1 ∧ z.2.2.1 ≤ 1 ∧ 0 ≤ z.2.2.2.1 ∧ z.2.2.2.1 ≤ 1 ∧ (z.1 = a ∨ z.1 ≤ 3)
theorem TB.ite {a : Int} {c : Prop} [Decidable c] {x y : Int × Int × Int × Int × Bool} (h : c → TB a x) (k : ¬ c → TB a y) : TB a (if c then x else y):=by
 by_cases hc : c
 ·rw [if_pos hc];exact h hc
 ·rw [if_neg hc];exact k hc
theorem tk_TB (op a : Int) : TB a (tk op a):=by
 unfold tk
 (repeat' (refine TB.ite (fun _=>?_) (fun _=>?_))) <;> (unfold TB;intro h;first | (exact Bool.noConfusion h) | (refine ⟨?_, ?_, ?_, ?_, ?_, ?_, ?_, ?_⟩ <;> dsimp only <;> omega))
theorem tk_bounds {op a : Int} (h : (tk op a).2.2.2.2 = true) : 0 ≤ (tk op a).1 ∧ 0 ≤ (tk op a).2.1 ∧ (tk op a).2.1 ≤ 1 ∧ -1 ≤ (tk op a).2.2.1 ∧ (tk op a).2.2.1 ≤ 1 ∧ 0 ≤ (tk op a).2.2.2.1 ∧ (tk op a).2.2.2.1 ≤ 1 ∧ ((tk op a).1 = a ∨ (tk op a).1 ≤ 3):=tk_TB op a h
def InB (i : Nat) (x : Way) : Prop:=0 ≤ x.1 ∧ x.1 ≤ i ∧ -(i : Int) ≤ x.2 ∧ x.2 ≤ i + 1
theorem InB.next {i : Nat} {x : Way} {op a : Int} (h : InB i x) (hk : (tk op a).2.2.2.2 = true) (h1 : (tk op a).1 ≤ x.1) : InB (i + 1) (after op a x):=by
 obtain ⟨b1,b2,b3,b4,b5,_⟩:=tk_bounds hk
 obtain ⟨c1,c2,c3,c4⟩:=h
 unfold after
 refine ⟨?_, ?_, ?_, ?_⟩ <;> dsimp only <;> omega
theorem InB.up {i : Nat} {x : Way} (h : InB i x) : InB (i + 1) x:=by obtain ⟨c1,c2,c3,c4⟩:=h;exact ⟨c1,by omega,by omega,by omega⟩
section
variable {n i : Nat} {f op a m : Int} {r : List (Int × Int)} {S S1 S2 : St} {x : Way}
theorem vGo_none (h : S.getD i none = none) : vGo n f ((op,a) :: r) i S m = (0,2):=by unfold vGo;rw [h]
theorem vGo_bad (h : S.getD i none = some x) (hc : ¬ ((tk op a).2.2.2.2 = true ∧ (tk op a).1 ≤ x.1 ∧ (tk op a).2.2.2.1 ≤ x.2)) : vGo n f ((op,a) :: r) i S m = (0,2):=by
 unfold vGo;rw [h];dsimp only;rw [if_neg hc]
theorem vGo_out (h : S.getD i none = some x) (hc : (tk op a).2.2.2.2 = true ∧ (tk op a).1 ≤ x.1 ∧ (tk op a).2.2.2.1 ≤ x.2) (hj : isJ op = true) (hb : ¬ ((i : Int) < a ∧ a ≤ n)) : vGo n f ((op,a) :: r) i S m = (0,2):=by
 unfold vGo;rw [h];dsimp only;rw [if_pos hc,if_pos hj,if_neg hb]
theorem vGo_un (h : S.getD i none = some x) (hc : (tk op a).2.2.2.2 = true ∧ (tk op a).1 ≤ x.1 ∧ (tk op a).2.2.2.1 ≤ x.2) (hj : isJ op = true) (hb : (i : Int) < a ∧ a ≤ n) (hn : note S a.toNat (after op a x) = none) : vGo n f ((op,a) :: r) i S m = (0,2):=by
 unfold vGo;rw [h];dsimp only;rw [if_pos hc,if_pos hj,if_pos hb,hn]
def vTail (n : Nat) (f : Int) (op a : Int) (r : List (Int × Int)) (i : Nat) (S1 : St) (m : Int) (x : Way) : Int × Int :=
 match (if op = 101 then some S1 else note S1 (i + 1) (after op a x)) with
 | none=>(0,2)
 | some S2=>vGo n f r (i + 1) S2 (max m x.1)
theorem vGo_jump (h : S.getD i none = some x) (hc : (tk op a).2.2.2.2 = true ∧ (tk op a).1 ≤ x.1 ∧ (tk op a).2.2.2.1 ≤ x.2) (hj : isJ op = true) (hb : (i : Int) < a ∧ a ≤ n) (hn : note S a.toNat (after op a x) = some S1) : vGo n f ((op,a) :: r) i S m = vTail n f op a r i S1 m x:=by
 unfold vTail
 rw [vGo];rw [h];dsimp only;rw [if_pos hc,if_pos hj,if_pos hb,hn]
theorem vGo_plain (h : S.getD i none = some x) (hc : (tk op a).2.2.2.2 = true ∧ (tk op a).1 ≤ x.1 ∧ (tk op a).2.2.2.1 ≤ x.2) (hj : isJ op = false) : vGo n f ((op,a) :: r) i S m = vTail n f op a r i S m x:=by
 unfold vTail
 rw [vGo];rw [h];dsimp only;rw [if_pos hc,hj];rfl
theorem vTail_101 : vTail n f 101 a r i S1 m x = vGo n f r (i + 1) S1 (max m x.1):=rfl
theorem vTail_un (ho : op ≠ 101) (hn : note S1 (i + 1) (after op a x) = none) : vTail n f op a r i S1 m x = (0,2):=by unfold vTail;rw [if_neg ho,hn]
theorem vTail_go (ho : op ≠ 101) (hn : note S1 (i + 1) (after op a x) = some S2) : vTail n f op a r i S1 m x = vGo n f r (i + 1) S2 (max m x.1):=by unfold vTail;rw [if_neg ho,hn]
end
theorem note_length {S S' : St} {k : Nat} {x : Way} (h : note S k x = some S') : S'.length = S.length:=by
 unfold note at h
 split at h
 ·injection h with h;subst h;simp
 ·split at h
  ·injection h with h;subst h;rfl
  ·cases h
theorem note_inB {S S' : St} {k i : Nat} {x : Way} (h : note S k x = some S') (hk : k < S.length) (hS : ∀ j y,S.getD j none = some y → InB i y) (hx : InB i x) : ∀ j y,S'.getD j none = some y → InB i y:=by
 intro j y hy
 unfold note at h
 split at h
 ·injection h with h;subst h
  rw [getD_setO S k j _ hk] at hy
  split at hy
  ·injection hy with hy;subst hy;exact hx
  ·exact hS j y hy
 ·split at h
  ·injection h with h;subst h;exact hS j y hy
  ·cases h
end Go.Proofs.YtnhmplfonkjfoaaDoor



namespace Go.Proofs.YtnhmplfonkjfoaaDoor
open Go.RowKit

section
variable {w w' : World} {o o' : Nat → Nat} {l g : Nat} {S : St} {T : Nat → Prop}
theorem Stt.lab (h : Stt w o l g S) : o g = l:=by obtain ⟨cs,h1,h2⟩:=h;exact h1.2
end
def ReachPost (w : World) (o : Nat → Nat) (l g : Nat) (S : St) (k : Nat) (x : Way) (e : Ending) (w' : World) : Prop :=
 Turn (· = l) w o w' o ∧ ((∃ S',note S k x = some S' ∧ e = .returned (.bool true) ∧ Stt w' o l g S') ∨ (note S k x = none ∧ e = .returned (.bool false)))
set_option maxRecDepth 100000 in
theorem eq_state (a b : Bool) (c d e f : Int) (W : World) : (binOp .eql 60 (.agg #[.bool a,.int .i64 c,.int .i64 e]) (.agg #[.bool b,.int .i64 d,.int .i64 f])).run Tryd.prog W = .ok (.bool (a == b && (c == d && e == f))) W:=by
 go_simp
 by_cases h0 : a = b <;> by_cases h1 : c = d <;> by_cases h2 : e = f <;> simp [h0,h1,h2]
set_option maxRecDepth 100000 in
theorem neq_state (a b : Bool) (c d e f : Int) (W : World) : (binOp .neq 60 (.agg #[.bool a,.int .i64 c,.int .i64 e]) (.agg #[.bool b,.int .i64 d,.int .i64 f])).run Tryd.prog W = .ok (.bool (!(a == b && (c == d && e == f)))) W:=by
 go_simp
 by_cases h0 : a = b <;> by_cases h1 : c = d <;> by_cases h2 : e = f <;> simp [h0,h1,h2]
set_option maxHeartbeats 1000000 in
theorem reach_any (w : World) (o : Nat → Nat) (l g : Nat) (S : St) (h : Stt w o l g S) (k : Nat) (hk : k < S.length) (x : Way) :
  Calls Tryd.prog 26 #[.pointer (some ⟨g,k * 3,none⟩),.int .i64 x.1,.int .i64 x.2] w (ReachPost w o l g S k x):=by
 obtain ⟨c0,c1,c2⟩:=h.cells hk
 have hlt:=h.lt
 have f0:=h.frozen (k * 3)
 have f1:=h.frozen (k * 3 + 1)
 have f2:=h.frozen (k * 3 + 2)
 have HS:=Lib.hid h
 obtain ⟨x1,x2⟩:=x
 cases e : S.getD k none with
 | none =>
  rw [e] at c0 c1 c2
  have HN : Hid (note S k (x1,x2) = some (S.set k (some (x1,x2)))):=Lib.hid (by unfold note;rw [e])
  dsimp only [oB,oH,oE,Option.isSome,Option.getD] at c0 c1 c2
  clear h e
  go_enter Tryd.func26,Tryd.ntmps26
  go_wp2_with fail
  go_ret
  refine ⟨?_,.inl ⟨_,HN.out,rfl, ?_⟩⟩
  ·exact (((((Turn.refl (· = l) w o).setCell (.inr HS.out.lab) _).setCell (.inr HS.out.lab) _).setCell (.inr HS.out.lab) _).alloc _)
  ·exact (HS.out.store hk (x1,x2)).alloc _
 | some y =>
  rw [e] at c0 c1 c2
  obtain ⟨y1,y2⟩:=y
  dsimp only [oB,oH,oE,Option.isSome,Option.getD] at c0 c1 c2
  have r1 : ∀ W,(binOp .eql 60 (.agg #[.bool true,.int .i64 y1,.int .i64 y2]) (.agg #[.bool true,.int .i64 x1,.int .i64 x2])).run Tryd.prog W = .ok (.bool (y1 == x1 && y2 == x2)) W:=fun W=>by rw [eq_state];rfl
  have HN : Hid (note S k (x1,x2) = if (y1 == x1 && y2 == x2) = true then some S else none):=Lib.hid (by
   unfold note;rw [e];dsimp only
   by_cases h1 : y1 = x1 <;> by_cases h2 : y2 = x2 <;> simp [h1,h2])
  generalize (y1 == x1 && y2 == x2) = b at *
  clear h e
  go_enter Tryd.func26,Tryd.ntmps26
  go_wp2_with fail
  go_quiet (fail)
  go_wp2_with fail
  go_ret
  refine ⟨(Turn.refl (· = l) w o).alloc _ |>.drewN _, ?_⟩
  have hn:=HN.out
  cases b with
  | true=>exact .inl ⟨_,hn,rfl,(HS.out.alloc _).drewN _⟩
  | false=>exact .inr ⟨hn,rfl⟩
end Go.Proofs.YtnhmplfonkjfoaaDoor



namespace Go.Proofs.YtnhmplfonkjfoaaDoor
open Go.RowKit

set_option maxHeartbeats 4000000 in
theorem effect_any (op a : Int) (tx : ByteArray) (ng : Bool) (hi lo sc dy : Int) (w : World) : Calls Tryd.prog 25 #[.agg #[.int .i64 op,.int .i64 a,.string tx,.bool ng,.int .u64 hi,.int .u64 lo,.int .i64 sc,.int .i64 dy]] w fun e w'=>e = .returned (.tuple #[.agg #[.int .i64 (tk op a).1,.int .i64 (tk op a).2.1,.int .i64 (tk op a).2.2.1,.int .i64 (tk op a).2.2.2.1],.bool (tk op a).2.2.2.2]) ∧ Below w.heap.size w w':=by
 rcases Int.lt_or_le a 0 with h0 | h0
 ·have tok:=trivial
  have e : tk op a = (0,0,0,0,false):=by
   unfold tk
   repeat (first | rw [if_pos (by omega)] | rw [if_neg (by omega)])
  have hc : cnt op = cnt op:=by unfold cnt;first | rfl | (rw [decide_eq_true_eq];omega) | (rw [decide_eq_false_iff_not];omega)
  rw [e]
  have HK:=Lib.hid (fun W=>counted_any op W)
  rw [hc] at HK
  clear e hc
  go_enter Tryd.func25,Tryd.ntmps25
  go_wp2_with (go_at_call 44;with_reducible refine (HK.out _).mono ?_;rintro _ _ ⟨rfl,rfl⟩)
  all_goals refine bodyPost_ret (by simp [results,Tryd.results25,go_sem, *];try rfl) rfl ?_
  all_goals first | exact ⟨rfl,by (repeat' first|(with_reducible first|exact blR _ _|assumption|refine blD ?_|refine blN ?_ _)|((with_reducible first|refine blA ?_ ?_ _|refine blS ?_ ?_ _|refine blT (by assumption) ?_ ?_);focus (go_size;done)))⟩ | (refine ⟨?_,by (repeat' first|(with_reducible first|exact blR _ _|assumption|refine blD ?_|refine blN ?_ _)|((with_reducible first|refine blA ?_ ?_ _|refine blS ?_ ?_ _|refine blT (by assumption) ?_ ?_);focus (go_size;done)))⟩;simp_all)
 by_cases c1 : op = 25
 ·subst c1
  by_cases c2 : 8 < a
  ·have tok:=trivial
   have e : tk 25 a = (0,0,0,0,false):=by
    unfold tk
    repeat (first | rw [if_pos (by omega)] | rw [if_neg (by omega)])
   have hc : cnt 25 = true:=by unfold cnt;first | rfl | (rw [decide_eq_true_eq];omega) | (rw [decide_eq_false_iff_not];omega)
   rw [e]
   have HK:=Lib.hid (fun W=>counted_any 25 W)
   rw [hc] at HK
   clear e hc
   go_enter Tryd.func25,Tryd.ntmps25
   go_wp2_with (go_at_call 44;with_reducible refine (HK.out _).mono ?_;rintro _ _ ⟨rfl,rfl⟩)
   all_goals refine bodyPost_ret (by simp [results,Tryd.results25,go_sem, *];try rfl) rfl ?_
   all_goals first | exact ⟨rfl,by (repeat' first|(with_reducible first|exact blR _ _|assumption|refine blD ?_|refine blN ?_ _)|((with_reducible first|refine blA ?_ ?_ _|refine blS ?_ ?_ _|refine blT (by assumption) ?_ ?_);focus (go_size;done)))⟩ | (refine ⟨?_,by (repeat' first|(with_reducible first|exact blR _ _|assumption|refine blD ?_|refine blN ?_ _)|((with_reducible first|refine blA ?_ ?_ _|refine blS ?_ ?_ _|refine blT (by assumption) ?_ ?_);focus (go_size;done)))⟩;simp_all)
  ·have c3 : a ≤ 8:=by omega
   have e : tk 25 a = (a,1,0,0,true):=by
    unfold tk
    repeat (first | rw [if_pos (by omega)] | rw [if_neg (by omega)])
   have hc : cnt 25 = true:=by unfold cnt;first | rfl | (rw [decide_eq_true_eq];omega) | (rw [decide_eq_false_iff_not];omega)
   rw [e]
   have HK:=Lib.hid (fun W=>counted_any 25 W)
   rw [hc] at HK
   clear e hc
   go_enter Tryd.func25,Tryd.ntmps25
   go_wp2_with (go_at_call 44;with_reducible refine (HK.out _).mono ?_;rintro _ _ ⟨rfl,rfl⟩)
   all_goals refine bodyPost_ret (by simp [results,Tryd.results25,go_sem, *];try rfl) rfl ?_
   all_goals first | exact ⟨rfl,by (repeat' first|(with_reducible first|exact blR _ _|assumption|refine blD ?_|refine blN ?_ _)|((with_reducible first|refine blA ?_ ?_ _|refine blS ?_ ?_ _|refine blT (by assumption) ?_ ?_);focus (go_size;done)))⟩ | (refine ⟨?_,by (repeat' first|(with_reducible first|exact blR _ _|assumption|refine blD ?_|refine blN ?_ _)|((with_reducible first|refine blA ?_ ?_ _|refine blS ?_ ?_ _|refine blT (by assumption) ?_ ?_);focus (go_size;done)))⟩;simp_all)
 by_cases c2 : op = 36
 ·subst c2
  by_cases c2 : a < 1
  ·have tok:=trivial
   have e : tk 36 a = (0,0,0,0,false):=by
    unfold tk
    repeat (first | rw [if_pos (by omega)] | rw [if_neg (by omega)])
   have hc : cnt 36 = true:=by unfold cnt;first | rfl | (rw [decide_eq_true_eq];omega) | (rw [decide_eq_false_iff_not];omega)
   rw [e]
   have HK:=Lib.hid (fun W=>counted_any 36 W)
   rw [hc] at HK
   clear e hc
   go_enter Tryd.func25,Tryd.ntmps25
   go_wp2_with (go_at_call 44;with_reducible refine (HK.out _).mono ?_;rintro _ _ ⟨rfl,rfl⟩)
   all_goals refine bodyPost_ret (by simp [results,Tryd.results25,go_sem, *];try rfl) rfl ?_
   all_goals first | exact ⟨rfl,by (repeat' first|(with_reducible first|exact blR _ _|assumption|refine blD ?_|refine blN ?_ _)|((with_reducible first|refine blA ?_ ?_ _|refine blS ?_ ?_ _|refine blT (by assumption) ?_ ?_);focus (go_size;done)))⟩ | (refine ⟨?_,by (repeat' first|(with_reducible first|exact blR _ _|assumption|refine blD ?_|refine blN ?_ _)|((with_reducible first|refine blA ?_ ?_ _|refine blS ?_ ?_ _|refine blT (by assumption) ?_ ?_);focus (go_size;done)))⟩;simp_all)
  ·have c3 : 1 ≤ a:=by omega
   have e : tk 36 a = (a,1,0,0,true):=by
    unfold tk
    repeat (first | rw [if_pos (by omega)] | rw [if_neg (by omega)])
   have hc : cnt 36 = true:=by unfold cnt;first | rfl | (rw [decide_eq_true_eq];omega) | (rw [decide_eq_false_iff_not];omega)
   rw [e]
   have HK:=Lib.hid (fun W=>counted_any 36 W)
   rw [hc] at HK
   clear e hc
   go_enter Tryd.func25,Tryd.ntmps25
   go_wp2_with (go_at_call 44;with_reducible refine (HK.out _).mono ?_;rintro _ _ ⟨rfl,rfl⟩)
   all_goals refine bodyPost_ret (by simp [results,Tryd.results25,go_sem, *];try rfl) rfl ?_
   all_goals first | exact ⟨rfl,by (repeat' first|(with_reducible first|exact blR _ _|assumption|refine blD ?_|refine blN ?_ _)|((with_reducible first|refine blA ?_ ?_ _|refine blS ?_ ?_ _|refine blT (by assumption) ?_ ?_);focus (go_size;done)))⟩ | (refine ⟨?_,by (repeat' first|(with_reducible first|exact blR _ _|assumption|refine blD ?_|refine blN ?_ _)|((with_reducible first|refine blA ?_ ?_ _|refine blS ?_ ?_ _|refine blT (by assumption) ?_ ?_);focus (go_size;done)))⟩;simp_all)
 by_cases c3 : op = 26
 ·subst c3
  have e : tk 26 a = (a,1,0,0,true):=by
   unfold tk
   repeat (first | rw [if_pos (by omega)] | rw [if_neg (by omega)])
  have hc : cnt 26 = true:=by unfold cnt;first | rfl | (rw [decide_eq_true_eq];omega) | (rw [decide_eq_false_iff_not];omega)
  rw [e]
  have HK:=Lib.hid (fun W=>counted_any 26 W)
  rw [hc] at HK
  clear e hc
  go_enter Tryd.func25,Tryd.ntmps25
  go_wp2_with (go_at_call 44;with_reducible refine (HK.out _).mono ?_;rintro _ _ ⟨rfl,rfl⟩)
  all_goals refine bodyPost_ret (by simp [results,Tryd.results25,go_sem, *];try rfl) rfl ?_
  all_goals first | exact ⟨rfl,by (repeat' first|(with_reducible first|exact blR _ _|assumption|refine blD ?_|refine blN ?_ _)|((with_reducible first|refine blA ?_ ?_ _|refine blS ?_ ?_ _|refine blT (by assumption) ?_ ?_);focus (go_size;done)))⟩ | (refine ⟨?_,by (repeat' first|(with_reducible first|exact blR _ _|assumption|refine blD ?_|refine blN ?_ _)|((with_reducible first|refine blA ?_ ?_ _|refine blS ?_ ?_ _|refine blT (by assumption) ?_ ?_);focus (go_size;done)))⟩;simp_all)
 by_cases c4 : op = 27
 ·subst c4
  have e : tk 27 a = (a,1,0,0,true):=by
   unfold tk
   repeat (first | rw [if_pos (by omega)] | rw [if_neg (by omega)])
  have hc : cnt 27 = true:=by unfold cnt;first | rfl | (rw [decide_eq_true_eq];omega) | (rw [decide_eq_false_iff_not];omega)
  rw [e]
  have HK:=Lib.hid (fun W=>counted_any 27 W)
  rw [hc] at HK
  clear e hc
  go_enter Tryd.func25,Tryd.ntmps25
  go_wp2_with (go_at_call 44;with_reducible refine (HK.out _).mono ?_;rintro _ _ ⟨rfl,rfl⟩)
  all_goals refine bodyPost_ret (by simp [results,Tryd.results25,go_sem, *];try rfl) rfl ?_
  all_goals first | exact ⟨rfl,by (repeat' first|(with_reducible first|exact blR _ _|assumption|refine blD ?_|refine blN ?_ _)|((with_reducible first|refine blA ?_ ?_ _|refine blS ?_ ?_ _|refine blT (by assumption) ?_ ?_);focus (go_size;done)))⟩ | (refine ⟨?_,by (repeat' first|(with_reducible first|exact blR _ _|assumption|refine blD ?_|refine blN ?_ _)|((with_reducible first|refine blA ?_ ?_ _|refine blS ?_ ?_ _|refine blT (by assumption) ?_ ?_);focus (go_size;done)))⟩;simp_all)
 by_cases c5 : op = 101
 ·subst c5
  have e : tk 101 a = (0,0,0,0,true):=by
   unfold tk
   repeat (first | rw [if_pos (by omega)] | rw [if_neg (by omega)])
  have hc : cnt 101 = false:=by unfold cnt;first | rfl | (rw [decide_eq_true_eq];omega) | (rw [decide_eq_false_iff_not];omega)
  rw [e]
  have HK:=Lib.hid (fun W=>counted_any 101 W)
  rw [hc] at HK
  clear e hc
  go_enter Tryd.func25,Tryd.ntmps25
  go_wp2_with (go_at_call 44;with_reducible refine (HK.out _).mono ?_;rintro _ _ ⟨rfl,rfl⟩)
  all_goals refine bodyPost_ret (by simp [results,Tryd.results25,go_sem, *];try rfl) rfl ?_
  all_goals first | exact ⟨rfl,by (repeat' first|(with_reducible first|exact blR _ _|assumption|refine blD ?_|refine blN ?_ _)|((with_reducible first|refine blA ?_ ?_ _|refine blS ?_ ?_ _|refine blT (by assumption) ?_ ?_);focus (go_size;done)))⟩ | (refine ⟨?_,by (repeat' first|(with_reducible first|exact blR _ _|assumption|refine blD ?_|refine blN ?_ _)|((with_reducible first|refine blA ?_ ?_ _|refine blS ?_ ?_ _|refine blT (by assumption) ?_ ?_);focus (go_size;done)))⟩;simp_all)
 by_cases c6 : op = 102
 ·subst c6
  have e : tk 102 a = (1,0,0,0,true):=by
   unfold tk
   repeat (first | rw [if_pos (by omega)] | rw [if_neg (by omega)])
  have hc : cnt 102 = false:=by unfold cnt;first | rfl | (rw [decide_eq_true_eq];omega) | (rw [decide_eq_false_iff_not];omega)
  rw [e]
  have HK:=Lib.hid (fun W=>counted_any 102 W)
  rw [hc] at HK
  clear e hc
  go_enter Tryd.func25,Tryd.ntmps25
  go_wp2_with (go_at_call 44;with_reducible refine (HK.out _).mono ?_;rintro _ _ ⟨rfl,rfl⟩)
  all_goals refine bodyPost_ret (by simp [results,Tryd.results25,go_sem, *];try rfl) rfl ?_
  all_goals first | exact ⟨rfl,by (repeat' first|(with_reducible first|exact blR _ _|assumption|refine blD ?_|refine blN ?_ _)|((with_reducible first|refine blA ?_ ?_ _|refine blS ?_ ?_ _|refine blT (by assumption) ?_ ?_);focus (go_size;done)))⟩ | (refine ⟨?_,by (repeat' first|(with_reducible first|exact blR _ _|assumption|refine blD ?_|refine blN ?_ _)|((with_reducible first|refine blA ?_ ?_ _|refine blS ?_ ?_ _|refine blT (by assumption) ?_ ?_);focus (go_size;done)))⟩;simp_all)
 by_cases c7 : a ≠ 0
 ·have tok:=trivial
  have q25 : (op == 25) = false:=by rw [beq_eq_false_iff_ne];omega
  have r25 : (op != 25) = true:=by rw [bne_iff_ne];omega
  have q36 : (op == 36) = false:=by rw [beq_eq_false_iff_ne];omega
  have r36 : (op != 36) = true:=by rw [bne_iff_ne];omega
  have q101 : (op == 101) = false:=by rw [beq_eq_false_iff_ne];omega
  have r101 : (op != 101) = true:=by rw [bne_iff_ne];omega
  have q102 : (op == 102) = false:=by rw [beq_eq_false_iff_ne];omega
  have r102 : (op != 102) = true:=by rw [bne_iff_ne];omega
  have ra : (a != 0) = true:=by rw [bne_iff_ne];omega
  have e : tk op a = (0,0,0,0,false):=by
   unfold tk
   repeat (first | rw [if_pos (by omega)] | rw [if_neg (by omega)])
  have hc : cnt op = false:=by unfold cnt;first | rfl | (rw [decide_eq_true_eq];omega) | (rw [decide_eq_false_iff_not];omega)
  rw [e]
  have HK:=Lib.hid (fun W=>counted_any op W)
  rw [hc] at HK
  clear e hc
  go_enter Tryd.func25,Tryd.ntmps25
  go_wp2_with (go_at_call 44;with_reducible refine (HK.out _).mono ?_;rintro _ _ ⟨rfl,rfl⟩)
  all_goals refine bodyPost_ret (by simp [results,Tryd.results25,go_sem, *];try rfl) rfl ?_
  all_goals first | exact ⟨rfl,by (repeat' first|(with_reducible first|exact blR _ _|assumption|refine blD ?_|refine blN ?_ _)|((with_reducible first|refine blA ?_ ?_ _|refine blS ?_ ?_ _|refine blT (by assumption) ?_ ?_);focus (go_size;done)))⟩ | (refine ⟨?_,by (repeat' first|(with_reducible first|exact blR _ _|assumption|refine blD ?_|refine blN ?_ _)|((with_reducible first|refine blA ?_ ?_ _|refine blS ?_ ?_ _|refine blT (by assumption) ?_ ?_);focus (go_size;done)))⟩;simp_all)
 obtain rfl : a = 0:=by omega
 by_cases d0 : op = 29
 ·subst d0
  have e : tk 29 0 = (0,1,0,0,true):=by
   unfold tk
   repeat (first | rw [if_pos (by omega)] | rw [if_neg (by omega)])
  have hc : cnt 29 = false:=by unfold cnt;first | rfl | (rw [decide_eq_true_eq];omega) | (rw [decide_eq_false_iff_not];omega)
  rw [e]
  have HK:=Lib.hid (fun W=>counted_any 29 W)
  rw [hc] at HK
  clear e hc
  go_enter Tryd.func25,Tryd.ntmps25
  go_wp2_with (go_at_call 44;with_reducible refine (HK.out _).mono ?_;rintro _ _ ⟨rfl,rfl⟩)
  all_goals refine bodyPost_ret (by simp [results,Tryd.results25,go_sem, *];try rfl) rfl ?_
  all_goals first | exact ⟨rfl,by (repeat' first|(with_reducible first|exact blR _ _|assumption|refine blD ?_|refine blN ?_ _)|((with_reducible first|refine blA ?_ ?_ _|refine blS ?_ ?_ _|refine blT (by assumption) ?_ ?_);focus (go_size;done)))⟩ | (refine ⟨?_,by (repeat' first|(with_reducible first|exact blR _ _|assumption|refine blD ?_|refine blN ?_ _)|((with_reducible first|refine blA ?_ ?_ _|refine blS ?_ ?_ _|refine blT (by assumption) ?_ ?_);focus (go_size;done)))⟩;simp_all)
 by_cases d1 : 1 ≤ op ∧ op ≤ 7
 ·obtain ⟨da,db⟩:=d1
  have q25 : (op == 25) = false:=by rw [beq_eq_false_iff_ne];omega
  have r25 : (op != 25) = true:=by rw [bne_iff_ne];omega
  have q36 : (op == 36) = false:=by rw [beq_eq_false_iff_ne];omega
  have r36 : (op != 36) = true:=by rw [bne_iff_ne];omega
  have q101 : (op == 101) = false:=by rw [beq_eq_false_iff_ne];omega
  have r101 : (op != 101) = true:=by rw [bne_iff_ne];omega
  have q102 : (op == 102) = false:=by rw [beq_eq_false_iff_ne];omega
  have r102 : (op != 102) = true:=by rw [bne_iff_ne];omega
  have q26 : (op == 26) = false:=by rw [beq_eq_false_iff_ne];omega
  have q27 : (op == 27) = false:=by rw [beq_eq_false_iff_ne];omega
  have q8 : (op == 8) = false:=by rw [beq_eq_false_iff_ne];omega
  have q24 : (op == 24) = false:=by rw [beq_eq_false_iff_ne];omega
  have q28 : (op == 28) = false:=by rw [beq_eq_false_iff_ne];omega
  have q37 : (op == 37) = false:=by rw [beq_eq_false_iff_ne];omega
  have q29 : (op == 29) = false:=by rw [beq_eq_false_iff_ne];omega
  have q22 : (op == 22) = false:=by rw [beq_eq_false_iff_ne];omega
  have q35 : (op == 35) = false:=by rw [beq_eq_false_iff_ne];omega
  have q103 : (op == 103) = false:=by rw [beq_eq_false_iff_ne];omega
  have q104 : (op == 104) = false:=by rw [beq_eq_false_iff_ne];omega
  have e : tk op 0 = (0,1,0,0,true):=by
   unfold tk
   repeat (first | rw [if_pos (by omega)] | rw [if_neg (by omega)])
  have hc : cnt op = false:=by unfold cnt;first | rfl | (rw [decide_eq_true_eq];omega) | (rw [decide_eq_false_iff_not];omega)
  rw [e]
  have HK:=Lib.hid (fun W=>counted_any op W)
  rw [hc] at HK
  clear e hc
  go_enter Tryd.func25,Tryd.ntmps25
  go_wp2_with (go_at_call 44;with_reducible refine (HK.out _).mono ?_;rintro _ _ ⟨rfl,rfl⟩)
  all_goals refine bodyPost_ret (by simp [results,Tryd.results25,go_sem, *];try rfl) rfl ?_
  all_goals first | exact ⟨rfl,by (repeat' first|(with_reducible first|exact blR _ _|assumption|refine blD ?_|refine blN ?_ _)|((with_reducible first|refine blA ?_ ?_ _|refine blS ?_ ?_ _|refine blT (by assumption) ?_ ?_);focus (go_size;done)))⟩ | (refine ⟨?_,by (repeat' first|(with_reducible first|exact blR _ _|assumption|refine blD ?_|refine blN ?_ _)|((with_reducible first|refine blA ?_ ?_ _|refine blS ?_ ?_ _|refine blT (by assumption) ?_ ?_);focus (go_size;done)))⟩;simp_all)
 by_cases d2 : op = 8
 ·subst d2
  have e : tk 8 0 = (1,1,0,0,true):=by
   unfold tk
   repeat (first | rw [if_pos (by omega)] | rw [if_neg (by omega)])
  have hc : cnt 8 = false:=by unfold cnt;first | rfl | (rw [decide_eq_true_eq];omega) | (rw [decide_eq_false_iff_not];omega)
  rw [e]
  have HK:=Lib.hid (fun W=>counted_any 8 W)
  rw [hc] at HK
  clear e hc
  go_enter Tryd.func25,Tryd.ntmps25
  go_wp2_with (go_at_call 44;with_reducible refine (HK.out _).mono ?_;rintro _ _ ⟨rfl,rfl⟩)
  all_goals refine bodyPost_ret (by simp [results,Tryd.results25,go_sem, *];try rfl) rfl ?_
  all_goals first | exact ⟨rfl,by (repeat' first|(with_reducible first|exact blR _ _|assumption|refine blD ?_|refine blN ?_ _)|((with_reducible first|refine blA ?_ ?_ _|refine blS ?_ ?_ _|refine blT (by assumption) ?_ ?_);focus (go_size;done)))⟩ | (refine ⟨?_,by (repeat' first|(with_reducible first|exact blR _ _|assumption|refine blD ?_|refine blN ?_ _)|((with_reducible first|refine blA ?_ ?_ _|refine blS ?_ ?_ _|refine blT (by assumption) ?_ ?_);focus (go_size;done)))⟩;simp_all)
 by_cases d3 : op = 24
 ·subst d3
  have e : tk 24 0 = (1,1,0,0,true):=by
   unfold tk
   repeat (first | rw [if_pos (by omega)] | rw [if_neg (by omega)])
  have hc : cnt 24 = false:=by unfold cnt;first | rfl | (rw [decide_eq_true_eq];omega) | (rw [decide_eq_false_iff_not];omega)
  rw [e]
  have HK:=Lib.hid (fun W=>counted_any 24 W)
  rw [hc] at HK
  clear e hc
  go_enter Tryd.func25,Tryd.ntmps25
  go_wp2_with (go_at_call 44;with_reducible refine (HK.out _).mono ?_;rintro _ _ ⟨rfl,rfl⟩)
  all_goals refine bodyPost_ret (by simp [results,Tryd.results25,go_sem, *];try rfl) rfl ?_
  all_goals first | exact ⟨rfl,by (repeat' first|(with_reducible first|exact blR _ _|assumption|refine blD ?_|refine blN ?_ _)|((with_reducible first|refine blA ?_ ?_ _|refine blS ?_ ?_ _|refine blT (by assumption) ?_ ?_);focus (go_size;done)))⟩ | (refine ⟨?_,by (repeat' first|(with_reducible first|exact blR _ _|assumption|refine blD ?_|refine blN ?_ _)|((with_reducible first|refine blA ?_ ?_ _|refine blS ?_ ?_ _|refine blT (by assumption) ?_ ?_);focus (go_size;done)))⟩;simp_all)
 by_cases d4 : op = 28
 ·subst d4
  have e : tk 28 0 = (1,1,0,0,true):=by
   unfold tk
   repeat (first | rw [if_pos (by omega)] | rw [if_neg (by omega)])
  have hc : cnt 28 = false:=by unfold cnt;first | rfl | (rw [decide_eq_true_eq];omega) | (rw [decide_eq_false_iff_not];omega)
  rw [e]
  have HK:=Lib.hid (fun W=>counted_any 28 W)
  rw [hc] at HK
  clear e hc
  go_enter Tryd.func25,Tryd.ntmps25
  go_wp2_with (go_at_call 44;with_reducible refine (HK.out _).mono ?_;rintro _ _ ⟨rfl,rfl⟩)
  all_goals refine bodyPost_ret (by simp [results,Tryd.results25,go_sem, *];try rfl) rfl ?_
  all_goals first | exact ⟨rfl,by (repeat' first|(with_reducible first|exact blR _ _|assumption|refine blD ?_|refine blN ?_ _)|((with_reducible first|refine blA ?_ ?_ _|refine blS ?_ ?_ _|refine blT (by assumption) ?_ ?_);focus (go_size;done)))⟩ | (refine ⟨?_,by (repeat' first|(with_reducible first|exact blR _ _|assumption|refine blD ?_|refine blN ?_ _)|((with_reducible first|refine blA ?_ ?_ _|refine blS ?_ ?_ _|refine blT (by assumption) ?_ ?_);focus (go_size;done)))⟩;simp_all)
 by_cases d5 : op = 37
 ·subst d5
  have e : tk 37 0 = (1,1,0,0,true):=by
   unfold tk
   repeat (first | rw [if_pos (by omega)] | rw [if_neg (by omega)])
  have hc : cnt 37 = false:=by unfold cnt;first | rfl | (rw [decide_eq_true_eq];omega) | (rw [decide_eq_false_iff_not];omega)
  rw [e]
  have HK:=Lib.hid (fun W=>counted_any 37 W)
  rw [hc] at HK
  clear e hc
  go_enter Tryd.func25,Tryd.ntmps25
  go_wp2_with (go_at_call 44;with_reducible refine (HK.out _).mono ?_;rintro _ _ ⟨rfl,rfl⟩)
  all_goals refine bodyPost_ret (by simp [results,Tryd.results25,go_sem, *];try rfl) rfl ?_
  all_goals first | exact ⟨rfl,by (repeat' first|(with_reducible first|exact blR _ _|assumption|refine blD ?_|refine blN ?_ _)|((with_reducible first|refine blA ?_ ?_ _|refine blS ?_ ?_ _|refine blT (by assumption) ?_ ?_);focus (go_size;done)))⟩ | (refine ⟨?_,by (repeat' first|(with_reducible first|exact blR _ _|assumption|refine blD ?_|refine blN ?_ _)|((with_reducible first|refine blA ?_ ?_ _|refine blS ?_ ?_ _|refine blT (by assumption) ?_ ?_);focus (go_size;done)))⟩;simp_all)
 by_cases d6 : 9 ≤ op ∧ op ≤ 20
 ·obtain ⟨da,db⟩:=d6
  have q25 : (op == 25) = false:=by rw [beq_eq_false_iff_ne];omega
  have r25 : (op != 25) = true:=by rw [bne_iff_ne];omega
  have q36 : (op == 36) = false:=by rw [beq_eq_false_iff_ne];omega
  have r36 : (op != 36) = true:=by rw [bne_iff_ne];omega
  have q101 : (op == 101) = false:=by rw [beq_eq_false_iff_ne];omega
  have r101 : (op != 101) = true:=by rw [bne_iff_ne];omega
  have q102 : (op == 102) = false:=by rw [beq_eq_false_iff_ne];omega
  have r102 : (op != 102) = true:=by rw [bne_iff_ne];omega
  have q26 : (op == 26) = false:=by rw [beq_eq_false_iff_ne];omega
  have q27 : (op == 27) = false:=by rw [beq_eq_false_iff_ne];omega
  have q8 : (op == 8) = false:=by rw [beq_eq_false_iff_ne];omega
  have q24 : (op == 24) = false:=by rw [beq_eq_false_iff_ne];omega
  have q28 : (op == 28) = false:=by rw [beq_eq_false_iff_ne];omega
  have q37 : (op == 37) = false:=by rw [beq_eq_false_iff_ne];omega
  have q29 : (op == 29) = false:=by rw [beq_eq_false_iff_ne];omega
  have q22 : (op == 22) = false:=by rw [beq_eq_false_iff_ne];omega
  have q35 : (op == 35) = false:=by rw [beq_eq_false_iff_ne];omega
  have q103 : (op == 103) = false:=by rw [beq_eq_false_iff_ne];omega
  have q104 : (op == 104) = false:=by rw [beq_eq_false_iff_ne];omega
  have e : tk op 0 = (2,1,0,0,true):=by
   unfold tk
   repeat (first | rw [if_pos (by omega)] | rw [if_neg (by omega)])
  have hc : cnt op = false:=by unfold cnt;first | rfl | (rw [decide_eq_true_eq];omega) | (rw [decide_eq_false_iff_not];omega)
  rw [e]
  have HK:=Lib.hid (fun W=>counted_any op W)
  rw [hc] at HK
  clear e hc
  go_enter Tryd.func25,Tryd.ntmps25
  go_wp2_with (go_at_call 44;with_reducible refine (HK.out _).mono ?_;rintro _ _ ⟨rfl,rfl⟩)
  all_goals refine bodyPost_ret (by simp [results,Tryd.results25,go_sem, *];try rfl) rfl ?_
  all_goals first | exact ⟨rfl,by (repeat' first|(with_reducible first|exact blR _ _|assumption|refine blD ?_|refine blN ?_ _)|((with_reducible first|refine blA ?_ ?_ _|refine blS ?_ ?_ _|refine blT (by assumption) ?_ ?_);focus (go_size;done)))⟩ | (refine ⟨?_,by (repeat' first|(with_reducible first|exact blR _ _|assumption|refine blD ?_|refine blN ?_ _)|((with_reducible first|refine blA ?_ ?_ _|refine blS ?_ ?_ _|refine blT (by assumption) ?_ ?_);focus (go_size;done)))⟩;simp_all)
 by_cases d7 : op = 22
 ·subst d7
  have e : tk 22 0 = (3,1,0,0,true):=by
   unfold tk
   repeat (first | rw [if_pos (by omega)] | rw [if_neg (by omega)])
  have hc : cnt 22 = false:=by unfold cnt;first | rfl | (rw [decide_eq_true_eq];omega) | (rw [decide_eq_false_iff_not];omega)
  rw [e]
  have HK:=Lib.hid (fun W=>counted_any 22 W)
  rw [hc] at HK
  clear e hc
  go_enter Tryd.func25,Tryd.ntmps25
  go_wp2_with (go_at_call 44;with_reducible refine (HK.out _).mono ?_;rintro _ _ ⟨rfl,rfl⟩)
  all_goals refine bodyPost_ret (by simp [results,Tryd.results25,go_sem, *];try rfl) rfl ?_
  all_goals first | exact ⟨rfl,by (repeat' first|(with_reducible first|exact blR _ _|assumption|refine blD ?_|refine blN ?_ _)|((with_reducible first|refine blA ?_ ?_ _|refine blS ?_ ?_ _|refine blT (by assumption) ?_ ?_);focus (go_size;done)))⟩ | (refine ⟨?_,by (repeat' first|(with_reducible first|exact blR _ _|assumption|refine blD ?_|refine blN ?_ _)|((with_reducible first|refine blA ?_ ?_ _|refine blS ?_ ?_ _|refine blT (by assumption) ?_ ?_);focus (go_size;done)))⟩;simp_all)
 by_cases d8 : 30 ≤ op ∧ op ≤ 34
 ·obtain ⟨da,db⟩:=d8
  have q25 : (op == 25) = false:=by rw [beq_eq_false_iff_ne];omega
  have r25 : (op != 25) = true:=by rw [bne_iff_ne];omega
  have q36 : (op == 36) = false:=by rw [beq_eq_false_iff_ne];omega
  have r36 : (op != 36) = true:=by rw [bne_iff_ne];omega
  have q101 : (op == 101) = false:=by rw [beq_eq_false_iff_ne];omega
  have r101 : (op != 101) = true:=by rw [bne_iff_ne];omega
  have q102 : (op == 102) = false:=by rw [beq_eq_false_iff_ne];omega
  have r102 : (op != 102) = true:=by rw [bne_iff_ne];omega
  have q26 : (op == 26) = false:=by rw [beq_eq_false_iff_ne];omega
  have q27 : (op == 27) = false:=by rw [beq_eq_false_iff_ne];omega
  have q8 : (op == 8) = false:=by rw [beq_eq_false_iff_ne];omega
  have q24 : (op == 24) = false:=by rw [beq_eq_false_iff_ne];omega
  have q28 : (op == 28) = false:=by rw [beq_eq_false_iff_ne];omega
  have q37 : (op == 37) = false:=by rw [beq_eq_false_iff_ne];omega
  have q29 : (op == 29) = false:=by rw [beq_eq_false_iff_ne];omega
  have q22 : (op == 22) = false:=by rw [beq_eq_false_iff_ne];omega
  have q35 : (op == 35) = false:=by rw [beq_eq_false_iff_ne];omega
  have q103 : (op == 103) = false:=by rw [beq_eq_false_iff_ne];omega
  have q104 : (op == 104) = false:=by rw [beq_eq_false_iff_ne];omega
  have e : tk op 0 = (1,1,0,1,true):=by
   unfold tk
   repeat (first | rw [if_pos (by omega)] | rw [if_neg (by omega)])
  have hc : cnt op = false:=by unfold cnt;first | rfl | (rw [decide_eq_true_eq];omega) | (rw [decide_eq_false_iff_not];omega)
  rw [e]
  have HK:=Lib.hid (fun W=>counted_any op W)
  rw [hc] at HK
  clear e hc
  go_enter Tryd.func25,Tryd.ntmps25
  go_wp2_with (go_at_call 44;with_reducible refine (HK.out _).mono ?_;rintro _ _ ⟨rfl,rfl⟩)
  all_goals refine bodyPost_ret (by simp [results,Tryd.results25,go_sem, *];try rfl) rfl ?_
  all_goals first | exact ⟨rfl,by (repeat' first|(with_reducible first|exact blR _ _|assumption|refine blD ?_|refine blN ?_ _)|((with_reducible first|refine blA ?_ ?_ _|refine blS ?_ ?_ _|refine blT (by assumption) ?_ ?_);focus (go_size;done)))⟩ | (refine ⟨?_,by (repeat' first|(with_reducible first|exact blR _ _|assumption|refine blD ?_|refine blN ?_ _)|((with_reducible first|refine blA ?_ ?_ _|refine blS ?_ ?_ _|refine blT (by assumption) ?_ ?_);focus (go_size;done)))⟩;simp_all)
 by_cases d9 : op = 35
 ·subst d9
  have e : tk 35 0 = (2,1,0,1,true):=by
   unfold tk
   repeat (first | rw [if_pos (by omega)] | rw [if_neg (by omega)])
  have hc : cnt 35 = false:=by unfold cnt;first | rfl | (rw [decide_eq_true_eq];omega) | (rw [decide_eq_false_iff_not];omega)
  rw [e]
  have HK:=Lib.hid (fun W=>counted_any 35 W)
  rw [hc] at HK
  clear e hc
  go_enter Tryd.func25,Tryd.ntmps25
  go_wp2_with (go_at_call 44;with_reducible refine (HK.out _).mono ?_;rintro _ _ ⟨rfl,rfl⟩)
  all_goals refine bodyPost_ret (by simp [results,Tryd.results25,go_sem, *];try rfl) rfl ?_
  all_goals first | exact ⟨rfl,by (repeat' first|(with_reducible first|exact blR _ _|assumption|refine blD ?_|refine blN ?_ _)|((with_reducible first|refine blA ?_ ?_ _|refine blS ?_ ?_ _|refine blT (by assumption) ?_ ?_);focus (go_size;done)))⟩ | (refine ⟨?_,by (repeat' first|(with_reducible first|exact blR _ _|assumption|refine blD ?_|refine blN ?_ _)|((with_reducible first|refine blA ?_ ?_ _|refine blS ?_ ?_ _|refine blT (by assumption) ?_ ?_);focus (go_size;done)))⟩;simp_all)
 by_cases d10 : op = 103
 ·subst d10
  have e : tk 103 0 = (1,0,1,0,true):=by
   unfold tk
   repeat (first | rw [if_pos (by omega)] | rw [if_neg (by omega)])
  have hc : cnt 103 = false:=by unfold cnt;first | rfl | (rw [decide_eq_true_eq];omega) | (rw [decide_eq_false_iff_not];omega)
  rw [e]
  have HK:=Lib.hid (fun W=>counted_any 103 W)
  rw [hc] at HK
  clear e hc
  go_enter Tryd.func25,Tryd.ntmps25
  go_wp2_with (go_at_call 44;with_reducible refine (HK.out _).mono ?_;rintro _ _ ⟨rfl,rfl⟩)
  all_goals refine bodyPost_ret (by simp [results,Tryd.results25,go_sem, *];try rfl) rfl ?_
  all_goals first | exact ⟨rfl,by (repeat' first|(with_reducible first|exact blR _ _|assumption|refine blD ?_|refine blN ?_ _)|((with_reducible first|refine blA ?_ ?_ _|refine blS ?_ ?_ _|refine blT (by assumption) ?_ ?_);focus (go_size;done)))⟩ | (refine ⟨?_,by (repeat' first|(with_reducible first|exact blR _ _|assumption|refine blD ?_|refine blN ?_ _)|((with_reducible first|refine blA ?_ ?_ _|refine blS ?_ ?_ _|refine blT (by assumption) ?_ ?_);focus (go_size;done)))⟩;simp_all)
 by_cases d11 : op = 104
 ·subst d11
  have e : tk 104 0 = (0,0,-1,1,true):=by
   unfold tk
   repeat (first | rw [if_pos (by omega)] | rw [if_neg (by omega)])
  have hc : cnt 104 = false:=by unfold cnt;first | rfl | (rw [decide_eq_true_eq];omega) | (rw [decide_eq_false_iff_not];omega)
  rw [e]
  have HK:=Lib.hid (fun W=>counted_any 104 W)
  rw [hc] at HK
  clear e hc
  go_enter Tryd.func25,Tryd.ntmps25
  go_wp2_with (go_at_call 44;with_reducible refine (HK.out _).mono ?_;rintro _ _ ⟨rfl,rfl⟩)
  all_goals refine bodyPost_ret (by simp [results,Tryd.results25,go_sem, *];try rfl) rfl ?_
  all_goals first | exact ⟨rfl,by (repeat' first|(with_reducible first|exact blR _ _|assumption|refine blD ?_|refine blN ?_ _)|((with_reducible first|refine blA ?_ ?_ _|refine blS ?_ ?_ _|refine blT (by assumption) ?_ ?_);focus (go_size;done)))⟩ | (refine ⟨?_,by (repeat' first|(with_reducible first|exact blR _ _|assumption|refine blD ?_|refine blN ?_ _)|((with_reducible first|refine blA ?_ ?_ _|refine blS ?_ ?_ _|refine blT (by assumption) ?_ ?_);focus (go_size;done)))⟩;simp_all)
 by_cases d12 : op = 21
 ·subst d12
  have e : tk 21 0 = (0,0,0,0,false):=by
   unfold tk
   repeat (first | rw [if_pos (by omega)] | rw [if_neg (by omega)])
  have hc : cnt 21 = false:=by unfold cnt;first | rfl | (rw [decide_eq_true_eq];omega) | (rw [decide_eq_false_iff_not];omega)
  rw [e]
  have HK:=Lib.hid (fun W=>counted_any 21 W)
  rw [hc] at HK
  clear e hc
  go_enter Tryd.func25,Tryd.ntmps25
  go_wp2_with (go_at_call 44;with_reducible refine (HK.out _).mono ?_;rintro _ _ ⟨rfl,rfl⟩)
  all_goals refine bodyPost_ret (by simp [results,Tryd.results25,go_sem, *];try rfl) rfl ?_
  all_goals first | exact ⟨rfl,by (repeat' first|(with_reducible first|exact blR _ _|assumption|refine blD ?_|refine blN ?_ _)|((with_reducible first|refine blA ?_ ?_ _|refine blS ?_ ?_ _|refine blT (by assumption) ?_ ?_);focus (go_size;done)))⟩ | (refine ⟨?_,by (repeat' first|(with_reducible first|exact blR _ _|assumption|refine blD ?_|refine blN ?_ _)|((with_reducible first|refine blA ?_ ?_ _|refine blS ?_ ?_ _|refine blT (by assumption) ?_ ?_);focus (go_size;done)))⟩;simp_all)
 by_cases d13 : op = 23
 ·subst d13
  have e : tk 23 0 = (0,0,0,0,false):=by
   unfold tk
   repeat (first | rw [if_pos (by omega)] | rw [if_neg (by omega)])
  have hc : cnt 23 = false:=by unfold cnt;first | rfl | (rw [decide_eq_true_eq];omega) | (rw [decide_eq_false_iff_not];omega)
  rw [e]
  have HK:=Lib.hid (fun W=>counted_any 23 W)
  rw [hc] at HK
  clear e hc
  go_enter Tryd.func25,Tryd.ntmps25
  go_wp2_with (go_at_call 44;with_reducible refine (HK.out _).mono ?_;rintro _ _ ⟨rfl,rfl⟩)
  all_goals refine bodyPost_ret (by simp [results,Tryd.results25,go_sem, *];try rfl) rfl ?_
  all_goals first | exact ⟨rfl,by (repeat' first|(with_reducible first|exact blR _ _|assumption|refine blD ?_|refine blN ?_ _)|((with_reducible first|refine blA ?_ ?_ _|refine blS ?_ ?_ _|refine blT (by assumption) ?_ ?_);focus (go_size;done)))⟩ | (refine ⟨?_,by (repeat' first|(with_reducible first|exact blR _ _|assumption|refine blD ?_|refine blN ?_ _)|((with_reducible first|refine blA ?_ ?_ _|refine blS ?_ ?_ _|refine blT (by assumption) ?_ ?_);focus (go_size;done)))⟩;simp_all)
 by_cases d14 : op ≤ 0
 ·have tok:=trivial
  have q25 : (op == 25) = false:=by rw [beq_eq_false_iff_ne];omega
  have r25 : (op != 25) = true:=by rw [bne_iff_ne];omega
  have q36 : (op == 36) = false:=by rw [beq_eq_false_iff_ne];omega
  have r36 : (op != 36) = true:=by rw [bne_iff_ne];omega
  have q101 : (op == 101) = false:=by rw [beq_eq_false_iff_ne];omega
  have r101 : (op != 101) = true:=by rw [bne_iff_ne];omega
  have q102 : (op == 102) = false:=by rw [beq_eq_false_iff_ne];omega
  have r102 : (op != 102) = true:=by rw [bne_iff_ne];omega
  have q26 : (op == 26) = false:=by rw [beq_eq_false_iff_ne];omega
  have q27 : (op == 27) = false:=by rw [beq_eq_false_iff_ne];omega
  have q8 : (op == 8) = false:=by rw [beq_eq_false_iff_ne];omega
  have q24 : (op == 24) = false:=by rw [beq_eq_false_iff_ne];omega
  have q28 : (op == 28) = false:=by rw [beq_eq_false_iff_ne];omega
  have q37 : (op == 37) = false:=by rw [beq_eq_false_iff_ne];omega
  have q29 : (op == 29) = false:=by rw [beq_eq_false_iff_ne];omega
  have q22 : (op == 22) = false:=by rw [beq_eq_false_iff_ne];omega
  have q35 : (op == 35) = false:=by rw [beq_eq_false_iff_ne];omega
  have q103 : (op == 103) = false:=by rw [beq_eq_false_iff_ne];omega
  have q104 : (op == 104) = false:=by rw [beq_eq_false_iff_ne];omega
  have e : tk op 0 = (0,0,0,0,false):=by
   unfold tk
   repeat (first | rw [if_pos (by omega)] | rw [if_neg (by omega)])
  have hc : cnt op = false:=by unfold cnt;first | rfl | (rw [decide_eq_true_eq];omega) | (rw [decide_eq_false_iff_not];omega)
  rw [e]
  have HK:=Lib.hid (fun W=>counted_any op W)
  rw [hc] at HK
  clear e hc
  go_enter Tryd.func25,Tryd.ntmps25
  go_wp2_with (go_at_call 44;with_reducible refine (HK.out _).mono ?_;rintro _ _ ⟨rfl,rfl⟩)
  all_goals refine bodyPost_ret (by simp [results,Tryd.results25,go_sem, *];try rfl) rfl ?_
  all_goals first | exact ⟨rfl,by (repeat' first|(with_reducible first|exact blR _ _|assumption|refine blD ?_|refine blN ?_ _)|((with_reducible first|refine blA ?_ ?_ _|refine blS ?_ ?_ _|refine blT (by assumption) ?_ ?_);focus (go_size;done)))⟩ | (refine ⟨?_,by (repeat' first|(with_reducible first|exact blR _ _|assumption|refine blD ?_|refine blN ?_ _)|((with_reducible first|refine blA ?_ ?_ _|refine blS ?_ ?_ _|refine blT (by assumption) ?_ ?_);focus (go_size;done)))⟩;simp_all)
 by_cases d15 : 105 ≤ op
 ·have tok:=trivial
  have q25 : (op == 25) = false:=by rw [beq_eq_false_iff_ne];omega
  have r25 : (op != 25) = true:=by rw [bne_iff_ne];omega
  have q36 : (op == 36) = false:=by rw [beq_eq_false_iff_ne];omega
  have r36 : (op != 36) = true:=by rw [bne_iff_ne];omega
  have q101 : (op == 101) = false:=by rw [beq_eq_false_iff_ne];omega
  have r101 : (op != 101) = true:=by rw [bne_iff_ne];omega
  have q102 : (op == 102) = false:=by rw [beq_eq_false_iff_ne];omega
  have r102 : (op != 102) = true:=by rw [bne_iff_ne];omega
  have q26 : (op == 26) = false:=by rw [beq_eq_false_iff_ne];omega
  have q27 : (op == 27) = false:=by rw [beq_eq_false_iff_ne];omega
  have q8 : (op == 8) = false:=by rw [beq_eq_false_iff_ne];omega
  have q24 : (op == 24) = false:=by rw [beq_eq_false_iff_ne];omega
  have q28 : (op == 28) = false:=by rw [beq_eq_false_iff_ne];omega
  have q37 : (op == 37) = false:=by rw [beq_eq_false_iff_ne];omega
  have q29 : (op == 29) = false:=by rw [beq_eq_false_iff_ne];omega
  have q22 : (op == 22) = false:=by rw [beq_eq_false_iff_ne];omega
  have q35 : (op == 35) = false:=by rw [beq_eq_false_iff_ne];omega
  have q103 : (op == 103) = false:=by rw [beq_eq_false_iff_ne];omega
  have q104 : (op == 104) = false:=by rw [beq_eq_false_iff_ne];omega
  have e : tk op 0 = (0,0,0,0,false):=by
   unfold tk
   repeat (first | rw [if_pos (by omega)] | rw [if_neg (by omega)])
  have hc : cnt op = false:=by unfold cnt;first | rfl | (rw [decide_eq_true_eq];omega) | (rw [decide_eq_false_iff_not];omega)
  rw [e]
  have HK:=Lib.hid (fun W=>counted_any op W)
  rw [hc] at HK
  clear e hc
  go_enter Tryd.func25,Tryd.ntmps25
  go_wp2_with (go_at_call 44;with_reducible refine (HK.out _).mono ?_;rintro _ _ ⟨rfl,rfl⟩)
  all_goals refine bodyPost_ret (by simp [results,Tryd.results25,go_sem, *];try rfl) rfl ?_
  all_goals first | exact ⟨rfl,by (repeat' first|(with_reducible first|exact blR _ _|assumption|refine blD ?_|refine blN ?_ _)|((with_reducible first|refine blA ?_ ?_ _|refine blS ?_ ?_ _|refine blT (by assumption) ?_ ?_);focus (go_size;done)))⟩ | (refine ⟨?_,by (repeat' first|(with_reducible first|exact blR _ _|assumption|refine blD ?_|refine blN ?_ _)|((with_reducible first|refine blA ?_ ?_ _|refine blS ?_ ?_ _|refine blT (by assumption) ?_ ?_);focus (go_size;done)))⟩;simp_all)
 have da : 38 ≤ op:=by omega
 have db : op ≤ 100:=by omega
 have q25 : (op == 25) = false:=by rw [beq_eq_false_iff_ne];omega
 have r25 : (op != 25) = true:=by rw [bne_iff_ne];omega
 have q36 : (op == 36) = false:=by rw [beq_eq_false_iff_ne];omega
 have r36 : (op != 36) = true:=by rw [bne_iff_ne];omega
 have q101 : (op == 101) = false:=by rw [beq_eq_false_iff_ne];omega
 have r101 : (op != 101) = true:=by rw [bne_iff_ne];omega
 have q102 : (op == 102) = false:=by rw [beq_eq_false_iff_ne];omega
 have r102 : (op != 102) = true:=by rw [bne_iff_ne];omega
 have q26 : (op == 26) = false:=by rw [beq_eq_false_iff_ne];omega
 have q27 : (op == 27) = false:=by rw [beq_eq_false_iff_ne];omega
 have q8 : (op == 8) = false:=by rw [beq_eq_false_iff_ne];omega
 have q24 : (op == 24) = false:=by rw [beq_eq_false_iff_ne];omega
 have q28 : (op == 28) = false:=by rw [beq_eq_false_iff_ne];omega
 have q37 : (op == 37) = false:=by rw [beq_eq_false_iff_ne];omega
 have q29 : (op == 29) = false:=by rw [beq_eq_false_iff_ne];omega
 have q22 : (op == 22) = false:=by rw [beq_eq_false_iff_ne];omega
 have q35 : (op == 35) = false:=by rw [beq_eq_false_iff_ne];omega
 have q103 : (op == 103) = false:=by rw [beq_eq_false_iff_ne];omega
 have q104 : (op == 104) = false:=by rw [beq_eq_false_iff_ne];omega
 have e : tk op 0 = (0,0,0,0,false):=by
  unfold tk
  repeat (first | rw [if_pos (by omega)] | rw [if_neg (by omega)])
 have hc : cnt op = false:=by unfold cnt;first | rfl | (rw [decide_eq_true_eq];omega) | (rw [decide_eq_false_iff_not];omega)
 rw [e]
 have HK:=Lib.hid (fun W=>counted_any op W)
 rw [hc] at HK
 clear e hc
 go_enter Tryd.func25,Tryd.ntmps25
 go_wp2_with (go_at_call 44;with_reducible refine (HK.out _).mono ?_;rintro _ _ ⟨rfl,rfl⟩)
 all_goals refine bodyPost_ret (by simp [results,Tryd.results25,go_sem, *];try rfl) rfl ?_
 all_goals first | exact ⟨rfl,by (repeat' first|(with_reducible first|exact blR _ _|assumption|refine blD ?_|refine blN ?_ _)|((with_reducible first|refine blA ?_ ?_ _|refine blS ?_ ?_ _|refine blT (by assumption) ?_ ?_);focus (go_size;done)))⟩ | (refine ⟨?_,by (repeat' first|(with_reducible first|exact blR _ _|assumption|refine blD ?_|refine blN ?_ _)|((with_reducible first|refine blA ?_ ?_ _|refine blS ?_ ?_ _|refine blT (by assumption) ?_ ?_);focus (go_size;done)))⟩;simp_all)
end Go.Proofs.YtnhmplfonkjfoaaDoor



namespace Go.Proofs.YtnhmplfonkjfoaaDoor
open Go.RowKit

def pairs (is : List InsD) : List (Int × Int):=is.map fun i=>(i.op,i.a)
theorem ov_low {B k : Nat} (h : k < B) : ov B k = 0:=if_pos h
theorem ov_up {B k : Nat} (h : B < k) : ov B k = 2:=by unfold ov;rw [if_neg (by omega),if_neg (by omega)]
theorem Stt.made (w : World) (n : Nat) : Stt (w.alloc (.cells (madeCells #[.bool false,.int .i64 0,.int .i64 0] (n * 3)) 60)) (ov w.heap.size) 1 w.heap.size (List.replicate n none):=by
 refine ⟨(madeCells #[.bool false,.int .i64 0,.int .i64 0] (n * 3)).toList,⟨?_,ov_self _⟩,by rw [Array.length_toList,size_madeCells,List.length_replicate],fun r hr=>?_⟩
 ·have:=Bk.new w 60 (madeCells #[.bool false,.int .i64 0,.int .i64 0] (n * 3)).toList
  rwa [Array.toArray_toList] at this
 ·rw [List.length_replicate] at hr
  have e : (List.replicate n (none : Option Way)).getD r none = none:=by rw [List.getD_eq_getElem?_getD,List.getElem?_replicate];split <;> rfl
  rw [e]
  exact ⟨made_at _ _ _ n r 0 hr (by decide),made_at _ _ _ n r 1 hr (by decide),made_at _ _ _ n r 2 hr (by decide)⟩
theorem pairs_length (is : List InsD) : (pairs is).length = is.length:=by simp [pairs]
theorem pairs_drop {is : List InsD} {t : Nat} (h : t < is.length) : (pairs is).drop t = ((ig is t).op,(ig is t).a) :: (pairs is).drop (t + 1):=by
 have e : (pairs is)[t]'(by rw [pairs_length];exact h) = ((ig is t).op,(ig is t).a):=by
  unfold pairs ig
  rw [List.getElem_map,List.getD_eq_getElem?_getD,List.getElem?_eq_getElem h];rfl
 rw [List.drop_eq_getElem_cons (by rw [pairs_length];exact h),e]
theorem pairs_end (is : List InsD) : (pairs is).drop is.length = []:=by rw [← pairs_length];exact List.drop_length
theorem info_state : (Tryd.prog.info? 60).map (fun i=>(i.zero,i.size,i.bytes)) = some (some (.agg #[.bool false,.int .i64 0,.int .i64 0]),3,24):=by kernel_rfl
theorem vGo_end (n i : Nat) (f m : Int) (S : St) : vGo n f [] i S m = if (oB (S.getD n none) == true && (oH (S.getD n none) == 1 && oE (S.getD n none) == f)) = true then (max m 1,0) else (0,2):=by
 unfold vGo
 cases S.getD n none with
 | none=>simp [oB]
 | some x =>
  obtain ⟨x1,x2⟩:=x
  by_cases h1 : x1 = 1 <;> by_cases h2 : x2 = f <;> simp [oB,oH,oE,h1,h2]
def fB (b : Bool) : Int:=if b = true then 1 else 0
def VerPost (is : List InsD) (b : Bool) (w : World) (e : Ending) (w' : World) : Prop:=e = .returned (.tuple #[.int .i64 (verS (pairs is) (fB b)).1,.int .i64 (verS (pairs is) (fB b)).2]) ∧ Below w.heap.size w w'
set_option maxHeartbeats 1000000 in
theorem verify_long (is : List InsD) (v : Value) (b : Bool) (w : World) (h : Cod w v is) (hl : 600 < is.length) : Calls Tryd.prog 14 #[v,.bool b] w (VerPost is b w):=by
 have HR : Hid (verS (pairs is) (fB b) = (0,6)):=Lib.hid (by unfold verS;rw [if_pos (by rw [pairs_length];exact hl)])
 obtain ⟨A,C,rfl,h2,h3⟩:=h
 have hl2 : (600 : Int) < (is.length : Int):=by omega
 clear h3 h2
 go_enter Tryd.func14,Tryd.ntmps14
 go_wp2_with fail
 go_ret2
 exact ⟨by rw [HR.out];rfl,Below.refl _ _⟩
end Go.Proofs.YtnhmplfonkjfoaaDoor



namespace Go.Proofs.YtnhmplfonkjfoaaDoor
open Go.RowKit

def sortR (op : Int) : Int:=if op ≤ 27 then 1 else if op = 28 then 2 else if 30 ≤ op ∧ op ≤ 35 then 3 else if op = 36 then 4 else 5
theorem sortR_kids {op n : Int} (h : kidsB op n = true) : sortR op = sortD op:=by
 unfold kidsB at h
 have h:=(of_decide_eq_true h).1
 unfold arD at h
 unfold sortR sortD
 repeat' split at h
 all_goals (first | exact absurd rfl h | (repeat' split) <;> omega)
end Go.Proofs.YtnhmplfonkjfoaaDoor



namespace Go.Proofs.YtnhmplfonkjfoaaDoor
open Go.RowKit

open Classical in
theorem sameB_iff {is js : List InsD} : sameB is js = true ↔ is = js:=by
 unfold sameB;classical exact decide_eq_true_iff
end Go.Proofs.YtnhmplfonkjfoaaDoor

