/- The contracts of the functions that the laws reach, part 15: what each returns and what becomes of memory. -/
import Derived.Lib.IndexLaws
import Derived.Test.YtbnadlpkbbdgjaaGreatDoorM14
set_option linter.unusedSimpArgs false
set_option linter.unusedVariables false


namespace Go.Proofs.YtbnadlpkbbdgjaaGreatDoor
open Go.RowKit

theorem dot_at (l : List UInt8) : (Lib.indexByte l 46 = -1 ∧ ahead l = l ∧ behind l = [] ∧ hasDot l = false) ∨ ∃ i : Nat,Lib.indexByte l 46 = i ∧ i < l.length ∧ ahead l = l.take i ∧ behind l = l.drop (i + 1) ∧ hasDot l = true:=by
 induction l with
 | nil => exact .inl ⟨rfl,rfl,rfl,rfl⟩
 | cons d r ih =>
  by_cases hd : d = 46
  ·subst hd
   exact .inr ⟨0,rfl,by simp,rfl,rfl,rfl⟩
  ·have h1 : (d == 46) = false:=by simpa using hd
   have h2 : (d != 46) = true:=by simpa using hd
   have ea : ahead (d :: r) = d :: ahead r:=by unfold ahead;rw [List.takeWhile_cons,h2];rfl
   have eb : behind (d :: r) = behind r:=by unfold behind;rw [List.dropWhile_cons,h2];rfl
   have ec : hasDot (d :: r) = hasDot r:=by
    unfold hasDot
    rw [Bool.eq_iff_iff]
    simp [Ne.symm hd]
   rw [ea,eb,ec]
   unfold Lib.indexByte
   rw [h1]
   rcases ih with ⟨i1,i2,i3,i4⟩ | ⟨i,i1,i2,i3,i4,i5⟩
   ·left
    rw [i1,i2]
    exact ⟨rfl,rfl,i3,i4⟩
   ·right
    refine ⟨i + 1, ?_,by simpa using i2,(by rw [i3];try rfl),(by rw [i4];try rfl),i5⟩
    rw [i1]
    have : ((i : Int) == -1) = false:=by rw [beq_eq_false_iff_ne];omega
    simp only [this]
    simp
theorem idx_one (l : List UInt8) (w : World) : Calls Tryz.prog 175 #[.string ⟨l.toArray⟩,.string ⟨#[46]⟩] w fun e w' => e = .returned (.int .i64 (Lib.indexByte l 46)) ∧ Below w.heap.size w w' :=
 (Tryz.stringslite_Index_one ⟨l.toArray⟩ 46 w).mono fun e w' h => by
  obtain ⟨h1,h2⟩:=h
  subst h2
  exact ⟨by simpa using h1,Below.refl _ _⟩
theorem ext_upto (l : List UInt8) (i : Nat) : (⟨l.toArray⟩ : ByteArray).extract 0 i = ⟨(l.take i).toArray⟩:=by rw [Lib.extract_mk];simp
theorem ext_from (l : List UInt8) (i : Nat) : (⟨l.toArray⟩ : ByteArray).extract i l.length = ⟨(l.drop i).toArray⟩:=by
 rw [Lib.extract_mk,List.take_of_length_le (by simp)]
set_option maxHeartbeats 1000000 in
theorem lcut_any (l : List UInt8) (hl : l.length ≤ 9223372036854775807) (w : World) : Calls Tryz.prog 134 #[.string ⟨l.toArray⟩,.string ⟨#[46]⟩] w fun e w' => e = .returned (.tuple #[.string ⟨(ahead l).toArray⟩,.string ⟨(behind l).toArray⟩,.bool (hasDot l)]) ∧ Below w.heap.size w w':=by
 have HI:=Lib.hid (fun W => idx_one l W)
 have hsz : (⟨l.toArray⟩ : ByteArray).size = l.length:=Lib.size_mk l
 rcases dot_at l with ⟨i1,i2,i3,i4⟩ | ⟨i,i1,i2,i3,i4,i5⟩
 ·rw [i1] at HI
  rw [i2,i3,i4]
  clear i1 i2 i3 i4 hsz
  go_enter Tryz.func134,Tryz.ntmps134
  go_wp2_with ((go_at_call 175;with_reducible refine (HI.out _).mono ?_);rintro _ w1 ⟨rfl,hb1⟩;have hb1s:=hb1.size;(try simp only [wsA,wsS,wsD,wsN] at hb1s);obtain ⟨hb1c,hb1f⟩:=bcell hb1;(try have : w.heap.size < w1.heap.size:=by omega);(try have : w.heap.size + 1 < w1.heap.size:=by omega);(try have : w.heap.size + 1 + 1 < w1.heap.size:=by omega);(try have : w.heap.size + 1 + 1 + 1 < w1.heap.size:=by omega))
  go_ret3
  exact ⟨rfl,by exact bel⟩
 ·rw [i1] at HI
  rw [i3,i4,i5,← ext_upto,← ext_from]
  have c1 : (0 : Int) ≤ (i : Int):=by omega
  have c2 : (i : Int) ≤ (l.length : Int):=by omega
  have c3 : (0 : Int) ≤ (i : Int) + 1:=by omega
  have c4 : (i : Int) + 1 ≤ (l.length : Int):=by omega
  have hsz2 : (#[46] : Array UInt8).size = 1:=rfl
  clear i1 i3 i4 i5
  go_enter Tryz.func134,Tryz.ntmps134
  go_wp2_with ((go_at_call 175;with_reducible refine (HI.out _).mono ?_);rintro _ w1 ⟨rfl,hb1⟩;have hb1s:=hb1.size;(try simp only [wsA,wsS,wsD,wsN] at hb1s);obtain ⟨hb1c,hb1f⟩:=bcell hb1;(try have : w.heap.size < w1.heap.size:=by omega);(try have : w.heap.size + 1 < w1.heap.size:=by omega);(try have : w.heap.size + 1 + 1 < w1.heap.size:=by omega);(try have : w.heap.size + 1 + 1 + 1 < w1.heap.size:=by omega))
  go_region
  go_wp2_with fail
  go_ret3
  exact ⟨rfl,by exact bel⟩
theorem minus_pre (l : List UInt8) : Lib.trimPrefix l [45] = past l ∧ Lib.hasPrefix l [45] = minus1 l:=by
 have e : Lib.hasPrefix l [45] = minus1 l:=by
  unfold Lib.hasPrefix minus1
  cases l with
  | nil => rfl
  | cons c r =>
   rw [Bool.eq_iff_iff]
   simp
   try exact eq_comm
 refine ⟨?_,e⟩
 unfold Lib.trimPrefix past
 rw [e];rfl
theorem pre_any (l : List UInt8) (w : World) : Calls Tryz.prog 89 #[.string ⟨l.toArray⟩,.string ⟨#[45]⟩] w fun e w' => e = .returned (.tuple #[.string ⟨(past l).toArray⟩,.bool (minus1 l)]) ∧ Below w.heap.size w w' :=
 (Tryz.strings_CutPrefix ⟨l.toArray⟩ ⟨#[45]⟩ w).mono fun e w' h => by
  obtain ⟨h1,h2⟩:=h
  subst h2
  rw [← (minus_pre l).1,← (minus_pre l).2]
  exact ⟨by simpa using h1,Below.refl _ _⟩
theorem tr_any (l : List UInt8) (hl : l.length ≤ 9223372036854775807) (w : World) : Calls Tryz.prog 92 #[.string ⟨l.toArray⟩,.string ⟨#[48]⟩] w fun e w' => e = .returned (.string ⟨(rt0 l).toArray⟩) ∧ Below w.heap.size w w' :=
 (Tryz.strings_TrimRight_one ⟨l.toArray⟩ 48 (by decide) w (by simpa [ByteArray.size] using hl)).mono fun e w' h => by
  obtain ⟨h1,h2⟩:=h
  subst h2
  exact ⟨by unfold rt0;simpa using h1,Below.refl _ _⟩
theorem tl_any (l : List UInt8) (w : World) : Calls Tryz.prog 93 #[.string ⟨l.toArray⟩,.string ⟨#[48]⟩] w fun e w' => e = .returned (.string ⟨(lt0 l).toArray⟩) ∧ Below w.heap.size w w' :=
 (Tryz.strings_TrimLeft_one ⟨l.toArray⟩ 48 (by decide) w).mono fun e w' h => by
  obtain ⟨h1,h2⟩:=h
  subst h2
  exact ⟨by unfold lt0;simpa using h1,Below.refl _ _⟩
theorem past_len (l : List UInt8) : (past l).length ≤ l.length:=by
 unfold past;split
 ·rw [List.length_drop];omega
 ·exact Nat.le_refl _
theorem both_len (l : List UInt8) : (ahead l).length + (behind l).length ≤ l.length:=by
 have h:=congrArg List.length (List.takeWhile_append_dropWhile (p:=(· != (46 : UInt8))) (l:=l))
 unfold ahead behind
 rw [List.length_append] at h
 rw [List.length_drop];omega
/-- what Parse hands back -/
def DPost (r : Bool × Nat × Nat × Int) (w : World) (e : Ending) (w' : World) : Prop:=e = .returned (.tuple #[.agg #[.bool r.1,.int .u64 (wd (r.2.1) 1),.int .u64 (wd (r.2.1) 0),.int .i64 (r.2.2.1 : Int)],.int .i64 r.2.2.2]) ∧ Below w.heap.size w w'
def parS1 (neg : Bool) (a b : List UInt8) : Bool × Nat × Nat × Int:=if dvb (a ++ b) 0 = 0 then (false,0,0,if neg = true then 5 else 0) else if 18 < b.length ∨ ¬ dvb (a ++ b) 0 < B34 then (false,0,0,3) else (neg,dvb (a ++ b) 0,b.length,0)
theorem parS_no {neg : Bool} {a b : List UInt8} {dt : Bool} (h : ¬ (isDs a = true ∧ ¬ (1 < a.length ∧ (a.headD 0).toNat = 48) ∧ (dt = true → isDs b = true))) : parS neg a b dt = (false,0,0,5):=if_neg h
theorem parS_yes {neg : Bool} {a b : List UInt8} {dt : Bool} (h : isDs a = true ∧ ¬ (1 < a.length ∧ (a.headD 0).toNat = 48) ∧ (dt = true → isDs b = true)) : parS neg a b dt = parS1 neg a (rt0 b):=if_pos h
end Go.Proofs.YtbnadlpkbbdgjaaGreatDoor

