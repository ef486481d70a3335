/- The contracts of the functions that the laws reach, part 14: what each returns and what becomes of memory. -/
import Derived.Test.YtbnadlpkbbdgjaaGreatDoorSh2
import Derived.Test.YtbnadlpkbbdgjaaGreatDoorM13
set_option linter.unusedSimpArgs false
set_option linter.unusedVariables false


namespace Go.Proofs.YtbnadlpkbbdgjaaGreatDoor
open Go.RowKit

def digS : List UInt8:=[48,49,50,51,52,53,54,55,56,57]
theorem isD_digS (c : UInt8) : digS.contains c = isD c:=by
 have key : ∀ n : Fin 256,digS.contains (UInt8.ofNat n.val) = isD (UInt8.ofNat n.val):=by decide +kernel
 have:=key ⟨c.toNat,c.toNat_lt⟩
 simpa using this
theorem dropW_nil {p : UInt8 → Bool} : ∀ {l : List UInt8},l.dropWhile p = [] ↔ ∀ c ∈ l,p c = true
 | [] => by simp
 | d :: r => by
  rw [List.dropWhile_cons]
  cases h : p d with
  | true =>
   simp only [if_true]
   rw [dropW_nil,List.forall_mem_cons]
   exact ⟨fun q => ⟨h,q⟩,fun q => q.2⟩
  | false => simp [h]
theorem trimS_nil (l : List UInt8) : (Lib.trimS l digS = []) ↔ l.all isD = true:=by
 have e : (fun c : UInt8 => digS.contains c) = isD:=funext isD_digS
 unfold Lib.trimS Lib.trimLeftS Lib.trimRightS
 rw [e]
 constructor
 ·intro h
  rw [List.all_eq_true]
  have h1 : ∀ c ∈ (l.reverse.dropWhile isD).reverse,isD c = true:=by
   intro c hc
   have:=dropW_nil.1 h c hc
   exact this
  have h2 : l.reverse.dropWhile isD = []:=by
   cases hd : l.reverse.dropWhile isD with
   | nil => rfl
   | cons c r =>
    exfalso
    have h3:=List.head?_dropWhile_not isD l.reverse
    rw [hd] at h3 h1
    have h4:=h1 c (by simp)
    simp [h4] at h3
  intro c hc
  exact dropW_nil.1 h2 c (by simpa using hc)
 ·intro h
  rw [List.all_eq_true] at h
  have h2 : l.reverse.dropWhile isD = []:=dropW_nil.2 fun c hc => h c (by simpa using hc)
  rw [h2];rfl
theorem digS_low : ∀ b ∈ digS,b.toNat < 128:=by decide
theorem trimd (l : List UInt8) (hl : l.length ≤ 9223372036854775807) (w : World) : Calls Tryz.prog 135 #[.string ⟨l.toArray⟩,.string ⟨#[48,49,50,51,52,53,54,55,56,57]⟩] w fun e w' => e = .returned (.string ⟨(Lib.trimS l digS).toArray⟩) ∧ Below w.heap.size w w' :=
 (Tryz.strings_Trim_ascii ⟨l.toArray⟩ ⟨digS.toArray⟩ w (by simpa [ByteArray.size] using hl) (by decide) (by
  intro j b hj
  have hb : b ∈ digS:=List.mem_of_getElem? (by simpa using hj)
  exact digS_low b hb)).mono fun e w' h => by
  obtain ⟨h1,h2⟩:=h
  exact ⟨by simpa using h1,h2⟩
set_option maxHeartbeats 1000000 in
theorem number_any (l : List UInt8) (hl : l.length ≤ 9223372036854775807) (w : World) : Calls Tryz.prog 91 #[.string ⟨l.toArray⟩] w fun e w' => e = .returned (.bool (isDs l)) ∧ Below w.heap.size w w':=by
 have HT:=Lib.hid (fun W => trimd l hl W)
 by_cases h0 : l = []
 ·subst h0
  clear HT
  go_enter Tryz.func91,Tryz.ntmps91
  go_wp2_with fail
  go_ret
  exact ⟨rfl,by exact bel⟩
 ·obtain ⟨t,ht⟩ : ∃ t,t = Lib.trimS l digS:=⟨_,rfl⟩
  have HV : Hid (isDs l = (t == [])):=Lib.hid (by
   unfold isDs
   rw [decide_eq_true h0,Bool.true_and,Bool.eq_iff_iff,← trimS_nil,ht]
   simp)
  rw [← ht] at HT
  have e1 : (l == []) = false:=by simpa using h0
  have e2 : (l != []) = true:=by simpa using h0
  have e3 : l.isEmpty = false:=by simpa using h0
  clear ht
  rw [HV.out]
  by_cases ht : t = []
  ·subst ht
   go_enter Tryz.func91,Tryz.ntmps91
   go_wp2_with ((go_at_call 135;with_reducible refine (HT.out _).mono ?_);rintro _ w1 ⟨rfl,hb1⟩;have hb1s:=hb1.size;(try simp only [wsA,wsS,wsD,wsN] at hb1s);obtain ⟨hb1c,hb1f⟩:=bcell hb1;(try have : w.heap.size < w1.heap.size:=by omega);(try have : w.heap.size + 1 < w1.heap.size:=by omega);(try have : w.heap.size + 1 + 1 < w1.heap.size:=by omega);(try have : w.heap.size + 1 + 1 + 1 < w1.heap.size:=by omega))
   go_ret
   exact ⟨rfl,by exact bel⟩
  ·have f1 : (t == []) = false:=by simpa using ht
   have f3 : t.isEmpty = false:=by simpa using ht
   rw [f1]
   go_enter Tryz.func91,Tryz.ntmps91
   go_wp2_with ((go_at_call 135;with_reducible refine (HT.out _).mono ?_);rintro _ w1 ⟨rfl,hb1⟩;have hb1s:=hb1.size;(try simp only [wsA,wsS,wsD,wsN] at hb1s);obtain ⟨hb1c,hb1f⟩:=bcell hb1;(try have : w.heap.size < w1.heap.size:=by omega);(try have : w.heap.size + 1 < w1.heap.size:=by omega);(try have : w.heap.size + 1 + 1 < w1.heap.size:=by omega);(try have : w.heap.size + 1 + 1 + 1 < w1.heap.size:=by omega))
   go_ret
   exact ⟨rfl,by exact bel⟩
end Go.Proofs.YtbnadlpkbbdgjaaGreatDoor

