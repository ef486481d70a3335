/- What this law reaches beyond the common contracts, part 3. -/
import Derived.IntWalk
import Derived.Deep.Cut
import Derived.Deep.CutRange
import Derived.BigQuiet
import Derived.Test.YtkjecoanlppeaaaGreatDoorCards
import Derived.Test.YtkjecoanlppeaaaGreatDoorTie
import Derived.Deep.DeepHandedRow
import Derived.LaidMore
import Derived.Lay
import Derived.SevenTiedAt
import Derived.Test.YtkjecoanlppeaaaGreatDoorM5
import Derived.Test.YtkjecoanlppeaaaGreatDoorXEb2
set_option linter.unusedSimpArgs false
set_option linter.unusedVariables false


namespace Go.Proofs.YtkjecoanlppeaaaGreatDoor
open Go.RowKit

theorem info_boolO : (Tryz.prog.info? 4).map (fun i => (i.zero,i.size,i.bytes)) = some (some (.bool false),1,1):=by kernel_rfl
theorem make_bools (n : Nat) (hn : n ≤ 60) : ∀ W : World,(Instr.makeSlice 42 (.int .i64 (n : Int)) (.int .i64 (n : Int))).run Tryz.prog W = .ok (.slice (some ⟨W.heap.size,0,none⟩) n n) (W.alloc (.cells (Array.replicate n (.bool false)) 4)):=fun W => by
 obtain ⟨ir,hir,hzr,hsr,hbr⟩:=info_parts info_boolO
 have:=run_make (P:=Tryz.prog) W 42 4 ir (.bool false) Tryz.underlying42 hir hzr .i64 .i64 (n : Int) (n : Int) (by omega) (by omega) (by rw [hbr];omega) (by omega)
 rw [this]
 have e : ((n : Int)).toNat = n:=by omega
 have e2 : madeCells (Value.bool false).cells (n * 1) = Array.replicate n (.bool false):=by
  rw [Nat.mul_one,← List.toArray_replicate,← toList_madeCells_one]
  rfl
 rw [e,hsr,e2]
end Go.Proofs.YtkjecoanlppeaaaGreatDoor



namespace Go.Proofs.YtkjecoanlppeaaaGreatDoor
open Go.RowKit

theorem va_bel2 {w w' : World} {d : VD} {A : Option Addr} {C : Nat} {A2 : Option Addr} {C2 : Nat} (h : VA w d A C A2 C2) (hb : Below w.heap.size w w') : VA w' d A C A2 C2:=VA.below h hb
theorem Bk.vcd {w : World} {g : Nat} {t : TypeId} {d : VD} {A : Option Addr} {C : Nat} {A2 : Option Addr} {C2 : Nat} (h : Bk w g t (vcs d A C A2 C2)) : w.cell? ⟨g,0,none⟩ = some (.int .i64 d.s.kind) ∧ w.cell? ⟨g,1,none⟩ = some (.bool d.s.yes) ∧ w.cell? ⟨g,2,none⟩ = some (.bool d.s.neg) ∧ w.cell? ⟨g,3,none⟩ = some (.int .u64 (wd d.s.coef 1)) ∧ w.cell? ⟨g,4,none⟩ = some (.int .u64 (wd d.s.coef 0)) ∧ w.cell? ⟨g,5,none⟩ = some (.int .i64 d.s.sc) ∧ w.cell? ⟨g,6,none⟩ = some (.string ⟨d.s.text.toArray⟩) ∧ w.cell? ⟨g,7,none⟩ = some (.int .i64 d.s.day) ∧ w.cell? ⟨g,8,none⟩ = some (.slice A d.list.length C) ∧ w.cell? ⟨g,9,none⟩ = some (.slice A2 d.names.length C2) :=
 ⟨h.cell 0 rfl,h.cell 1 rfl,h.cell 2 rfl,h.cell 3 rfl,h.cell 4 rfl,h.cell 5 rfl,h.cell 6 rfl,h.cell 7 rfl,h.cell 8 rfl,h.cell 9 rfl⟩
theorem chk_size {d : VD} (h : chkV d = 0) : d.size ≤ 1000:=by
 unfold chkV at h
 split at h
 ·omega
 ·omega
theorem vg_mem {l : List VD} {t : Nat} (h : t < l.length) : vg l t ∈ l:=by rw [vg_get h];exact List.getElem_mem _
theorem zero_size : VD.zero.size = 1:=by simp [VD.zero,VD.size,sizes]
/-- rows of rows behind a step of the call's own: their values lie in the memory of w -/
def LlsX (w wx : World) (R : Value) (rs : List (List VD)) : Prop:=∃ A C,R = .slice A rs.length C ∧ (rs.length ≤ 1048576 ∧ rs.length ≤ C ∧ C ≤ maxLen) ∧ ∀ t,t < rs.length → ∃ b o B D,A = some ⟨b,o,none⟩ ∧ wx.cell? ⟨b,o + t,none⟩ = some (.slice B (lg rs t).length D) ∧ Vls (RV w) w (.slice B (lg rs t).length D) (lg rs t)
theorem LlsX.is {w wx : World} {R : Value} {rs : List (List VD)} (h : LlsX w wx R rs) : ∃ A C,R = .slice A rs.length C:=by
 obtain ⟨A,C,h1,_⟩:=h
 exact ⟨A,C,h1⟩
theorem LlsX.at {w wx : World} {rs : List (List VD)} {A : Option Addr} {n C : Nat} (h : LlsX w wx (.slice A n C) rs) {t : Nat} (ht : t < rs.length) : ∃ b o B D,A = some ⟨b,o,none⟩ ∧ wx.cell? ⟨b,o + t,none⟩ = some (.slice B (lg rs t).length D) ∧ Vls (RV w) w (.slice B (lg rs t).length D) (lg rs t):=by
 obtain ⟨A',C',h1,h2,h3⟩:=h
 injection h1 with e1 e2 e3
 subst e1
 exact h3 t ht
end Go.Proofs.YtkjecoanlppeaaaGreatDoor



namespace Go.Proofs.YtkjecoanlppeaaaGreatDoor
open Go.RowKit

theorem formP_few {p : Int} (h : p ≤ 7) (names : List (List UInt8)) (order rows : List (List VD)) (other : List VD) : formP p names order rows other = formT names order rows other:=by
 unfold formP
 rw [decide_eq_false (show ¬ 8 ≤ p by omega)]
 simp
theorem endD_ok {d : VD} (h : chkV d = 0) : endD (d,0) = (d,0):=by unfold endD;rw [if_neg (by simp),if_neg (by simp [h])]
theorem endD_bad {d : VD} (h : chkV d ≠ 0) : endD (d,0) = (VD.zero,chkV d):=by unfold endD;rw [if_neg (by simp),if_pos (by exact h)]
/-- what Decide answers to what is in form -/
theorem decAll_form {p : Int} (h1 : 1 ≤ p) (h11 : p ≤ 11) {names : List (List UInt8)} {order rows : List (List VD)} {other : List VD} (hf : formP p names order rows other = true) : decAll p names order rows other = endD (decR p names order (rowsD rows other)):=by
 have hpb : policyB p = true:=by unfold policyB;rw [decide_eq_true h1,decide_eq_true h11];rfl
 unfold decAll
 rw [if_neg (by rw [hpb];decide),if_neg (by rw [hf];decide)]
theorem decAll_bad {p : Int} (h1 : 1 ≤ p) (h11 : p ≤ 11) {names : List (List UInt8)} {order rows : List (List VD)} {other : List VD} (hf : formP p names order rows other = false) : decAll p names order rows other = (VD.zero,2):=by
 have hpb : policyB p = true:=by unfold policyB;rw [decide_eq_true h1,decide_eq_true h11];rfl
 unfold decAll
 rw [if_neg (by rw [hpb];decide),if_pos hf]
theorem plD_len (order rows : List (List VD)) : (plD order rows).length = rows.length:=srt_len _ _
end Go.Proofs.YtkjecoanlppeaaaGreatDoor



namespace Go.Proofs.YtkjecoanlppeaaaGreatDoor
open Go.RowKit

def lsV (l : List VD) : VD:=.mk (kindS 5) l []
theorem srt_perm (rk : Nat → List Nat) (n : Nat) : (srt rk n).Perm (List.range n):=by
 have h : (srtL rk n).Perm (List.finRange n):=List.mergeSort_perm _ _
 have h2:=h.map Fin.val
 have e : (List.finRange n).map Fin.val = List.range n:=by
  apply List.ext_getElem
  ·simp
  ·intro i h1 h2
   simp
 rw [e] at h2
 exact h2
theorem range_vg (l : List VD) : (List.range l.length).map (vg l) = l:=by
 apply List.ext_getElem
 ·simp
 ·intro i h1 h2
  rw [List.getElem_map,List.getElem_range,vg_get h2]
theorem sizes_perm {a b : List VD} (h : a.Perm b) : sizes a = sizes b:=by
 induction h with
 | nil => rfl
 | cons x _ ih => rw [sizes,sizes,ih]
 | swap x y l => rw [sizes,sizes,sizes,sizes];omega
 | trans _ _ h1 h2 => exact h1.trans h2
theorem deeps_perm {a b : List VD} (h : a.Perm b) : deeps a = deeps b:=by
 induction h with
 | nil => rfl
 | cons x _ ih => rw [deeps,deeps,ih]
 | swap x y l => rw [deeps,deeps,deeps,deeps];omega
 | trans _ _ h1 h2 => exact h1.trans h2
theorem oks_perm {a b : List VD} (h : a.Perm b) : oks a = oks b:=by
 induction h with
 | nil => rfl
 | cons x _ ih => rw [oks,oks,ih]
 | swap x y l => rw [oks,oks,oks,oks,← Bool.and_assoc,← Bool.and_assoc,Bool.and_comm (okV y)]
 | trans _ _ h1 h2 => exact h1.trans h2
theorem ls_own (n : Nat) : ownB (kindS 5) n [] = true:=by
 unfold ownB
 rw [Bool.and_eq_true]
 refine ⟨bareQ_iff.2 ⟨.inr rfl,.inr (by kernel_rfl),.inr rfl,.inr rfl,.inl (.inl rfl),.inr rfl⟩, ?_⟩
 unfold kindB
 rw [if_pos (.inr (.inr rfl))]
theorem ls_chk (l : List VD) : chkV (lsV l) = if 1000 < 1 + sizes l then 6 else if 16 < deeps l + 1 then 7 else if oks l = true then 0 else 2:=by
 unfold chkV
 have e1 : (lsV l).size = 1 + sizes l:=by unfold lsV;rw [VD.size]
 have e2 : (lsV l).deep = deeps l + 1:=by unfold lsV;rw [VD.deep]
 have e3 : okV (lsV l) = oks l:=by
  rw [okV_eq]
  show (ownB (kindS 5) l.length [] && oks l) = _
  rw [ls_own,Bool.true_and]
 rw [e1,e2,e3]
theorem ls_perm {a b : List VD} (h : a.Perm b) : chkV (lsV a) = chkV (lsV b):=by rw [ls_chk,ls_chk,sizes_perm h,deeps_perm h,oks_perm h]
theorem deep_mem : ∀ {l : List VD} {x : VD},x ∈ l → x.deep ≤ deeps l
 | y :: r,x,h => by
  rw [deeps]
  rcases List.mem_cons.1 h with rfl | h
  ·omega
  ·have:=deep_mem h;omega
theorem size_mem : ∀ {l : List VD} {x : VD},x ∈ l → x.size ≤ sizes l
 | y :: r,x,h => by
  rw [sizes]
  rcases List.mem_cons.1 h with rfl | h
  ·omega
  ·have:=size_mem h;omega
theorem ok_mem : ∀ {l : List VD} {x : VD},oks l = true → x ∈ l → okV x = true
 | y :: r,x,h,hm => by
  rw [oks,Bool.and_eq_true] at h
  rcases List.mem_cons.1 hm with rfl | hm
  ·exact h.1
  ·exact ok_mem h.2 hm
theorem ls_items {l : List VD} (h : chkV (lsV l) = 0) {x : VD} (hx : x ∈ l) : chkV x = 0:=by
 rw [ls_chk] at h
 split at h
 ·omega
 ·split at h
  ·omega
  ·split at h
   ·rename_i h1 h2 h3
    have s:=size_mem hx
    have d:=deep_mem hx
    have o:=ok_mem h3 hx
    unfold chkV
    rw [if_neg (by omega),if_neg (by omega),if_pos o]
   ·omega
/-- how often a value stands in a list -/
noncomputable def cO (l : List VD) (v : VD) : Nat:=l.countP fun x => sameB x v
theorem cO_perm {a b : List VD} (h : a.Perm b) (v : VD) : cO a v = cO b v:=h.countP_eq _
theorem cO_take {l : List VD} {t : Nat} (h : t < l.length) (v : VD) : cO (l.take (t + 1)) v = cO (l.take t) v + if sameB (vg l t) v = true then 1 else 0:=by
 unfold cO
 rw [take_vg h,List.countP_append,List.countP_singleton]
theorem cO_take_le (l : List VD) (t : Nat) (v : VD) : cO (l.take t) v ≤ cO l v:=by
 unfold cO
 have h:=List.countP_append (p:=fun x => sameB x v) (l₁:=l.take t) (l₂:=l.drop t)
 rw [List.take_append_drop] at h
 omega
/-- of those that are used -/
noncomputable def cU : List Bool → List VD → VD → Nat
 | b :: bs,x :: xs,v => (if b = true ∧ sameB x v = true then 1 else 0) + cU bs xs v
 | _,_,_ => 0
theorem cU_none (v : VD) : ∀ (n : Nat) (l : List VD),cU (List.replicate n false) l v = 0
 | 0,l => by unfold cU;rfl
 | n + 1,[] => by unfold cU;rfl
 | n + 1,x :: r => by
  rw [List.replicate_succ,cU,cU_none v n r,if_neg (by simp)]
theorem cU_free {v : VD} : ∀ {bs : List Bool} {l : List VD},bs.length = l.length → cU bs l v < cO l v → ∃ k,k < l.length ∧ bs.getD k true = false ∧ sameB (vg l k) v = true
 | [],[],_,h => by simp [cU,cO] at h
 | b :: bs,x :: xs,hl,h => by
  have hl2 : bs.length = xs.length:=by simpa using hl
  by_cases h1 : b = false ∧ sameB x v = true
  ·exact ⟨0,by simp,by simpa using h1.1,by simpa [vg] using h1.2⟩
  ·have hlt : cU bs xs v < cO xs v:=by
    unfold cO at h ⊢
    rw [cU,List.countP_cons] at h
    by_cases hs : sameB x v = true
    ·have hb : b = true:=by
      cases b with
      | true => rfl
      | false => exact absurd ⟨rfl,hs⟩ h1
     rw [if_pos ⟨hb,hs⟩,if_pos hs] at h
     omega
    ·rw [if_neg (fun q => hs q.2),if_neg hs] at h
     omega
   obtain ⟨k,k1,k2,k3⟩:=cU_free hl2 hlt
   refine ⟨k + 1,by simpa using k1,by simpa using k2, ?_⟩
   have e : vg (x :: xs) (k + 1) = vg xs k:=by simp [vg]
   rw [e];exact k3
 | [],_ :: _,hl,_ => by simp at hl
 | _ :: _,[],hl,_ => by simp at hl
theorem cU_set {v : VD} : ∀ {bs : List Bool} {l : List VD} {k : Nat},bs.length = l.length → k < l.length → bs.getD k true = false → cU (bs.set k true) l v = cU bs l v + if sameB (vg l k) v = true then 1 else 0
 | b :: bs,x :: xs,0,_,_,hb => by
  have hb2 : b = false:=by simpa using hb
  subst hb2
  rw [List.set_cons_zero,cU,cU]
  have e : vg (x :: xs) 0 = x:=by simp [vg]
  rw [e]
  by_cases hs : sameB x v = true
  ·simp [hs];omega
  ·simp [hs]
 | b :: bs,x :: xs,k + 1,hl,hk,hb => by
  rw [List.set_cons_succ,cU,cU,cU_set (by simpa using hl) (by simpa using hk) (by simpa using hb)]
  have e : vg (x :: xs) (k + 1) = vg xs k:=by simp [vg]
  rw [e]
  omega
 | [],l,k,hl,hk,_ => by simp at hl;omega
 | _ :: _,[],k,_,hk,_ => by simp at hk
/-- the answers of the lists' policies -/
inductive Lists (r : Int → VD × Int) (n : Nat) : Prop where
 | bad (e : Int) : e ≠ 0 → r 5 = (VD.zero,e) → r 6 = (VD.zero,e) → r 7 = (VD.zero,e) → Lists r n
 | good (l os : List VD) : r 5 = (lsV l,0) → r 7 = (lsV l,0) → r 6 = (lsV os,0) → os.length = l.length → l.length ≤ 60 → (0 < n → l.length = n) → (∀ v,cO os v = cO l v) → (∀ t,t < l.length → chkV (vg l t) = 0) → (∀ t,t < os.length → chkV (vg os t) = 0) → (0 < l.length → r 3 = (vg os 0,0)) → Lists r n
theorem lists_plain (names : List (List UInt8)) (order rows : List (List VD)) (other : List VD) : Lists (fun p => decAll p names order rows other) rows.length:=by
 cases hf : formT names order rows other with
 | false =>
  have hz : ∀ p : Int,1 ≤ p → p ≤ 7 → decAll p names order rows other = (VD.zero,2):=fun p h1 h4 => decAll_bad h1 (by omega) (by rw [formP_few (by omega)];exact hf)
  exact .bad 2 (by decide) (hz 5 (by decide) (by decide)) (hz 6 (by decide) (by decide)) (hz 7 (by decide) (by decide))
 | true =>
  have hfp : ∀ p : Int,p ≤ 7 → formP p names order rows other = true:=fun p h => by rw [formP_few (by omega)];exact hf
  obtain ⟨hin,_⟩:=form_in (hfp 1 (by decide))
  have hD : ∀ p : Int,1 ≤ p → p ≤ 7 → decAll p names order rows other = endD (decR p names order (rowsD rows other)):=fun p h1 h4 => decAll_form h1 (by omega) (hfp p h4)
  have hrows : 0 < rows.length → rowsD rows other = rows:=fun h => by
   unfold rowsD
   rw [if_neg (by omega)]
  obtain ⟨rs,hrs⟩ : ∃ rs,rs = rowsD rows other:=⟨_,rfl⟩
  rw [← hrs] at hin hD hrows
  by_cases h0 : rs.length = 0
  ·have hz : ∀ p : Int,5 ≤ p → p ≤ 7 → decAll p names order rows other = (lsV [],0):=fun p h1 h4 => by
    rw [hD p (by omega) h4]
    unfold decR
    rw [if_pos h0]
    have e : noneD p = lsV []:=by unfold noneD;rw [if_pos ⟨h1,h4⟩];rfl
    rw [e]
    exact endD_ok (by kernel_rfl)
   refine .good [] [] (hz 5 (by decide) (by decide)) (hz 7 (by decide) (by decide)) (hz 6 (by decide) (by decide)) rfl (by simp) (fun h => ?_) (fun _ => rfl) (fun t ht => absurd ht (Nat.not_lt_zero _)) (fun t ht => absurd ht (Nat.not_lt_zero _)) (fun h => absurd h (Nat.lt_irrefl _))
   have:=hrows h
   rw [this] at h0
   omega
  ·obtain ⟨l,hl⟩ : ∃ l,l = rs.map (wholeD names):=⟨_,rfl⟩
   obtain ⟨pl,hpl⟩ : ∃ pl,pl = plD order rs:=⟨_,rfl⟩
   have hln : l.length = rs.length:=by rw [hl,List.length_map]
   have hpn : pl.length = rs.length:=by rw [hpl];exact plD_len _ _
   have hR : ∀ p : Int,1 ≤ p → p ≤ 7 → decAll p names order rows other = endD (decD p l pl):=fun p h1 h4 => by
    rw [hD p h1 h4]
    unfold decR
    rw [if_neg h0,← hl,← hpl]
   have e5 : decAll 5 names order rows other = endD (lsV l,0):=by rw [hR 5 (by decide) (by decide)];unfold decD;rw [if_neg (by decide),if_neg (by decide),if_neg (by decide),if_neg (by decide),if_neg (by decide),if_neg (by decide),if_neg (by decide)];rfl
   have e7 : decAll 7 names order rows other = endD (lsV l,0):=by rw [hR 7 (by decide) (by decide)];unfold decD;rw [if_neg (by decide),if_neg (by decide),if_neg (by decide),if_neg (by decide),if_neg (by decide),if_neg (by decide),if_neg (by decide)];rfl
   have e6 : decAll 6 names order rows other = endD (lsV (pl.map (vg l)),0):=by rw [hR 6 (by decide) (by decide)];unfold decD;rw [if_neg (by decide),if_neg (by decide),if_neg (by decide),if_neg (by decide),if_pos rfl];rfl
   have e3 : decAll 3 names order rows other = endD (vg l (ag pl 0),0):=by rw [hR 3 (by decide) (by decide)];unfold decD;rw [if_neg (by decide),if_neg (by decide),if_pos rfl]
   have hperm : (pl.map (vg l)).Perm l:=by
    have h:=(srt_perm (rankF order ∘ lg rs) rs.length).map (vg l)
    rw [← hln,range_vg,hln] at h
    rw [hpl]
    exact h
   have hck : chkV (lsV (pl.map (vg l))) = chkV (lsV l):=ls_perm hperm
   by_cases hc : chkV (lsV l) = 0
   ·have hc6:=hck.trans hc
    rw [endD_ok hc] at e5 e7
    rw [endD_ok hc6] at e6
    have hpl0 : 0 < pl.length:=by omega
    have hos0 : vg (pl.map (vg l)) 0 = vg l (ag pl 0):=by
     unfold vg ag
     rw [List.getD_eq_getElem?_getD,List.getElem?_map,List.getElem?_eq_getElem hpl0,List.getD_eq_getElem?_getD (l:=pl),List.getElem?_eq_getElem hpl0];rfl
    have hit : ∀ t,t < (pl.map (vg l)).length → chkV (vg (pl.map (vg l)) t) = 0:=fun t ht => ls_items hc6 (vg_mem ht)
    refine .good l (pl.map (vg l)) e5 e7 e6 (by rw [List.length_map];omega) (by have:=hin.r60;omega) (fun h => by rw [hln,hrows h]) (fun v => cO_perm hperm v) (fun t ht => ls_items hc (vg_mem ht)) hit fun h => ?_
    show decAll 3 names order rows other = _
    have h00:=hit 0 (by rw [List.length_map];omega)
    rw [hos0] at h00 ⊢
    rw [e3,endD_ok h00]
   ·rw [endD_bad hc] at e5 e7
    rw [endD_bad (by rw [hck];exact hc),hck] at e6
    exact .bad _ hc e5 e6 e7
end Go.Proofs.YtkjecoanlppeaaaGreatDoor



namespace Go.Proofs.YtkjecoanlppeaaaGreatDoor
open Go.RowKit
open Go.ChangeShapes Go.WideShapes Go.ChangeAt
open Go.ChangeMaps (open_string shut_string)

theorem lls_of {P : Nat → List VD → Prop} : ∀ n,(∀ i,i < n → ∃ l,P i l) → ∃ ls : List (List VD),ls.length = n ∧ ∀ i,i < n → P i (lg ls i)
 | 0,_ => ⟨[],rfl,fun i hi => absurd hi (Nat.not_lt_zero _)⟩
 | n + 1,h => by
  obtain ⟨l,h1,h2⟩:=lls_of (P:=P) n (fun i hi => h i (by omega))
  obtain ⟨d,h4⟩:=h n (by omega)
  refine ⟨l ++ [d],by rw [List.length_append,h1];rfl,fun i hi => ?_⟩
  unfold lg
  rcases Nat.lt_or_ge i n with h' | h'
  ·rw [List.getD_eq_getElem?_getD,List.getElem?_append_left (by omega)]
   have:=h2 i h'
   unfold lg at this
   rwa [List.getD_eq_getElem?_getD] at this
  ·obtain rfl : i = n:=by omega
   rw [List.getD_eq_getElem?_getD,List.getElem?_append_right (by omega),h1,Nat.sub_self]
   exact h4
section
variable {H : Type} {enc : TypeId × Value → H} {W : World} {b0 : Nat} {sp : Nat → Bool} {held : Bool}
set_option maxRecDepth 100000 in
set_option maxHeartbeats 1000000 in
theorem open_vls {fuel : Nat} {c : Value} {x : DataW H × List MemPlace} (h : DataW.trod enc Tryz.prog W b0 sp held fuel 24 [c] = some x) (hN2 : Rows.uptoBulk x.1 ≤ 1048576) :
  ∃ A C l,c = .slice A l.length C ∧ Vls (RV W) W c l ∧ sizes l ≤ Rows.uptoBulk x.1:=by
 have n6 : Tryz.prog.cellsOf 34 = 10:=by kernel_rfl
 rcases Deep.open_slice Tryz.underlying24 h with ⟨hc,rfl⟩ | ⟨a,len,cap,m,n',D,Pl,hc,_,hl,hm,hmm,rfl,hxs⟩
 ·injection hc with hc
  subst hc
  exact ⟨none,0,[],rfl,⟨none,0,rfl,⟨by simp,by simp,by unfold maxLen;omega⟩,fun r hr => absurd hr (by simp)⟩,by simp [sizes]⟩
 ·injection hc with hc
  subst hc
  rw [n6] at hxs
  have hle : len ≤ m:=by rw [hmm];split <;> omega
  simp only [Rows.uptoBulk] at hN2 ⊢
  rw [bulk_range] at hN2 ⊢
  have hlen2 : len ≤ 1048576:=by
   have:=sum_pos (fun i => Rows.uptoBulk (D i)) (fun i => bulk_pos _) len
   omega
  obtain ⟨b,o,spot⟩:=a
  obtain ⟨l,h1,h2,h3⟩:=vds_of (P:=fun i vd => spot = none ∧ ∃ A1 C1 A2 C2,At W b (o + i * 10) (vd.s.cs ++ [.slice A1 vd.list.length C1,.slice A2 vd.names.length C2]) ∧ RV W (.slice A1 vd.list.length C1) (.slice A2 vd.names.length C2) vd) (f:=fun i => Rows.uptoBulk (D i)) len (fun i hi => by
   obtain ⟨cs',q1,q2⟩:=hxs i (by omega)
   have hbi:=sum_mem (fun i => Rows.uptoBulk (D i)) len i hi
   obtain ⟨vd,A1,C1,A3,C3,e,hrv,hs⟩:=open_cells (Rows.uptoBulk (D i)) n' cs' (D i,Pl i) (Nat.le_refl _) (by omega) q2
   obtain ⟨_,hl10,hat⟩:=World.cells?_some q1
   have hspot : spot = none:=by
    obtain ⟨cs0,p1,_⟩:=hxs 0 (by omega)
    obtain ⟨_,hl0,hat0⟩:=World.cells?_some p1
    have h0:=hat0 0 (by omega)
    rw [List.getElem?_eq_getElem (by omega)] at h0
    simpa [Addr.add] using World.cell?_spot h0
   subst hspot
   refine ⟨vd,⟨rfl,A1,C1,A3,C3,fun j hj => ?_,hrv⟩,hs⟩
   rw [← e] at hj ⊢
   rw [← hat j (by omega)]
   congr 1
   rw [show ((⟨b,o,none⟩ : Addr).add (i * 10)) = ⟨b,o + i * 10,none⟩ from add_plain ..,show ((⟨b,o + i * 10,none⟩ : Addr).add j) = ⟨b,o + i * 10 + j,none⟩ from add_plain ..])
  refine ⟨some ⟨b,o,spot⟩,cap,l,by rw [h1],⟨some ⟨b,o,spot⟩,cap,by rw [h1],⟨by omega,by omega,by unfold maxLen at hm ⊢;omega⟩,fun r hr => ?_⟩,by omega⟩
  obtain ⟨q0,A1,C1,A3,C3,q1,q2⟩:=h2 r (by omega)
  subst q0
  exact ⟨b,o,A1,C1,A3,C3,rfl,q1,q2⟩
set_option maxRecDepth 100000 in
theorem open_lls {fuel : Nat} {c : Value} {x : DataW H × List MemPlace} (h : DataW.trod enc Tryz.prog W b0 sp held fuel 23 [c] = some x) (hb : Rows.uptoBulk x.1 ≤ 1048576) :
  ∃ A C ls,c = .slice A ls.length C ∧ Lls W c ls ∧ ∀ t,t < ls.length → SmallL (lg ls t):=by
 rcases Deep.open_slice1 Tryz.underlying23 (by kernel_rfl) h with ⟨hc,rfl⟩ | ⟨a,len,cap,m,n,V,D,Pl,hc,_,hl,hm,hmm,rfl,hx⟩
 ·injection hc with hc
  subst hc
  exact ⟨none,0,[],rfl,⟨none,0,rfl,⟨by simp,by simp,by unfold maxLen;omega⟩,fun r hr => absurd hr (by simp)⟩,fun t ht => absurd ht (by simp)⟩
 ·injection hc with hc
  subst hc
  have hle : len ≤ m:=by rw [hmm];split <;> omega
  simp only [Rows.uptoBulk] at hb
  rw [bulk_range] at hb
  have hlen : len ≤ 1048576:=by
   have:=sum_pos (fun i => Rows.uptoBulk (D i)) (fun i => bulk_pos _) len
   omega
  obtain ⟨b,o,spot⟩:=a
  obtain ⟨ls,h1,h2⟩:=lls_of (P:=fun i l => spot = none ∧ (∃ B E,W.cell? ⟨b,o + i,none⟩ = some (.slice B l.length E) ∧ Vls (RV W) W (.slice B l.length E) l) ∧ SmallL l) len (fun i hi => by
   obtain ⟨h3,h4⟩:=hx i (by omega)
   have hbi:=sum_mem (fun i => Rows.uptoBulk (D i)) len i hi
   obtain ⟨B,E,l,e,hv,hs⟩:=open_vls h4 (by dsimp only;omega)
   have hspot : spot = none:=by simpa [Addr.add] using World.cell?_spot (hx 0 (by omega)).1
   subst hspot
   dsimp only at hs
   rw [e] at hv
   refine ⟨l,rfl,⟨B,E, ?_,hv⟩,smallL_of (by omega)⟩
   rw [← add_plain,h3,e])
  refine ⟨some ⟨b,o,spot⟩,cap,ls,by rw [h1],⟨some ⟨b,o,spot⟩,cap,by rw [h1],⟨by omega,by omega,by unfold maxLen at hm ⊢;omega⟩,fun r hr => ?_⟩,fun t ht => (h2 t (by omega)).2.2⟩
  obtain ⟨q0,⟨B,E,q1,q2⟩,_⟩:=h2 r (by omega)
  subst q0
  exact ⟨b,o,B,E,rfl,q1,q2⟩
end
set_option maxRecDepth 100000 in
set_option maxHeartbeats 1000000 in
theorem ldecide_any (p : Int) (names : List (List UInt8)) (order rows : List (List VD)) (other : List VD) (N O R V : Value) (w : World) (hT : Tabs w) (hn : Nms w N names) (ho : Lls w O order) (hr : Lls w R rows) (hv : Vls (RV w) w V other) :
  Calls Tryz.prog 11 #[.int .i64 p,.agg #[N,O,R,V]] w (RetX 0 w.heap.size (decAll p names order rows other) w):=by
 have hdc:=fun (W : World) (hW : Below w.heap.size w W) => hdecide_any p names order rows other N O R V W (tabs_below hT hW) (hn.below hW) (ho.below hW) (hr.below hW) (hv.kept hW)
 obtain ⟨Z,hZ⟩ : ∃ Z,Z = decAll p names order rows other:=⟨_,rfl⟩
 rw [← hZ]
 simp only [← hZ] at hdc
 unfold RetX at hdc
 obtain ⟨d,er⟩:=Z
 dsimp only at hdc
 have HDC:=Lib.hid hdc
 obtain ⟨NA,NC,rfl,_⟩:=hn.is
 obtain ⟨OA,OC,rfl,_⟩:=ho.is
 obtain ⟨RA,RC,rfl,_⟩:=hr.is
 obtain ⟨VA0,VC0,rfl,_⟩:=hv.is
 clear hdc hT hn ho hr hv hZ
 go_enter Tryz.func11,Tryz.ntmps11
 go_wp2_with (go_at_call 22;(with_reducible refine (HDC.out _ (by (repeat' first|(with_reducible first|exact blR _ _|assumption|refine blD ?_|refine blN ?_ _)|((with_reducible first|refine blA ?_ ?_ _|refine blS ?_ ?_ _|refine blT (by assumption) ?_ ?_);focus (go_size;done))))).mono ?_);rintro _ w3 ⟨VA,VC,VA2,VC2,rfl,hvb,hb3⟩;have HVB:=Lib.hid hvb;clear hvb;have hb3s:=hb3.size;(try simp only [World.size_alloc] at hb3s);(try have : w.heap.size < w3.heap.size:=by omega);(try have : w.heap.size + 1 < w3.heap.size:=by omega);(try have : w.heap.size + 1 + 1 < w3.heap.size:=by omega);(try have : w.heap.size + 1 + 1 + 1 < w3.heap.size:=by omega);have k1 : Bk w3 (w.heap.size + 1) 34 zc10:=(by unfold zc10;(repeat (first|(with_reducible assumption)|((with_reducible refine bkW ?_);(first|rfl|(simp only [wsA,wsS,wsD,wsN];done)))|(with_reducible first|refine bkA ?_ _|refine bkD ?_|refine bkN ?_ _)|((with_reducible refine bkF ?_ ?_ _);focus (simp only [];omega))|((with_reducible refine bkB (by assumption) ?_ ?_);focus (go_size;done)))));have mb : Below w.heap.size w w3:=(by (repeat' first|(with_reducible first|exact blR _ _|assumption|refine blD ?_|refine blN ?_ _)|((with_reducible first|refine blA ?_ ?_ _|refine blS ?_ ?_ _|refine blT (by assumption) ?_ ?_);focus (go_size;done))));obtain ⟨⟨z0,z1,z2,z3,z4,z5,z6,z7,z8,z9⟩,zf⟩:=k1.zcd;clear k1 hb3)
 refine bodyPost_ret (by simp [results,Tryz.results11,go_sem, *];try rfl) rfl ?_
 refine ⟨VA,VC,VA2,VC2,rfl,fun W' hW' => HVB.out _ (fun b hb => (hW' b (by simp only [World.size_setCell];simp only [World.size_alloc] at hb;omega)).trans ?_),by (repeat' first|(with_reducible first|exact blR _ _|assumption|refine blD ?_|refine blN ?_ _)|((with_reducible first|refine blA ?_ ?_ _|refine blS ?_ ?_ _|refine blT (by assumption) ?_ ?_);focus (go_size;done)))⟩
 simp only [World.size_alloc] at hb
 repeat rw [Below.heap_setCell _ _ _ _ (by show b ≠ w.heap.size + 1;omega)]
end Go.Proofs.YtkjecoanlppeaaaGreatDoor



namespace Go.Proofs.YtkjecoanlppeaaaGreatDoor
open Go.RowKit

theorem endD_size (r : VD × Int) : (endD r).1.size ≤ 1000:=by
 unfold endD
 split
 ·show VD.zero.size ≤ _;rw [zero_size];decide
 ·split
  ·show VD.zero.size ≤ _;rw [zero_size];decide
  ·rename_i h
   exact chk_size (by simpa using h)
theorem decAll_size (p : Int) (names : List (List UInt8)) (order rows : List (List VD)) (other : List VD) : (decAll p names order rows other).1.size ≤ 1000:=by
 unfold decAll
 split
 ·show VD.zero.size ≤ _;rw [zero_size];decide
 ·split
  ·show VD.zero.size ≤ _;rw [zero_size];decide
  ·exact endD_size _
/-- the law's same -/
theorem same_two (x y : VD) (A : Option Addr) (C : Nat) (A2 : Option Addr) (C2 : Nat) (B : Option Addr) (D : Nat) (B2 : Option Addr) (D2 : Nat) (W : World) (hx : VA W x A C A2 C2) (hy : VA W y B D B2 D2) (hs : x.size ≤ 1000) (hs2 : y.size ≤ 1000) :
  Calls Tryz.prog 12 #[vargs x A C A2 C2,vargs y B D B2 D2] W fun e w' => e = .returned (.bool (sameB x y)) ∧ Below W.heap.size W w':=by
 have h:=lsame_any x y A C A2 C2 B D B2 D2 W hx hy (by omega) (by omega)
 rw [decide_eq_true hs,decide_eq_true hs2,Bool.true_and,Bool.true_and] at h
 exact h
theorem same_self (x : VD) (A : Option Addr) (C : Nat) (A2 : Option Addr) (C2 : Nat) (B : Option Addr) (D : Nat) (B2 : Option Addr) (D2 : Nat) (W : World) (hx : VA W x A C A2 C2) (hy : VA W x B D B2 D2) (hs : x.size ≤ 1000) :
  Calls Tryz.prog 12 #[vargs x A C A2 C2,vargs x B D B2 D2] W fun e w' => e = .returned (.bool true) ∧ Below W.heap.size W w':=by
 have h:=same_two x x A C A2 C2 B D B2 D2 W hx hy hs hs
 rw [sameB_self] at h
 exact h
end Go.Proofs.YtkjecoanlppeaaaGreatDoor



namespace Go.Proofs.YtkjecoanlppeaaaGreatDoor
open Go.RowKit

/-- what the law's Decide answers in a world: a value and an error -/
def LDec (p : Int) (d : VD) (e : Int) (T : Value) (w : World) : Prop:=∀ W : World,Below w.heap.size w W → Calls Tryz.prog 11 #[.int .i64 p,T] W fun x w' => ∃ A C A2 C2,x = .returned (.tuple #[vargs d A C A2 C2,.int .i64 e]) ∧ VB 0 W.heap.size w'.heap.size w' d A C A2 C2 ∧ Below W.heap.size W w'
theorem ldec_of (p : Int) {names : List (List UInt8)} {order rows : List (List VD)} {other : List VD} {N O R V : Value} {w : World} (hT : Tabs w) (hn : Nms w N names) (ho : Lls w O order) (hr : Lls w R rows) (hv : Vls (RV w) w V other) {d : VD} {e : Int} (h : decAll p names order rows other = (d,e)) : LDec p d e (.agg #[N,O,R,V]) w:=fun W hW => by
 have k:=ldecide_any p names order rows other N O R V W (tabs_below hT hW) (hn.below hW) (ho.below hW) (hr.below hW) (hv.kept hW)
 rw [h] at k
 exact k
end Go.Proofs.YtkjecoanlppeaaaGreatDoor



namespace Go.Proofs.YtkjecoanlppeaaaGreatDoor
open Go.RowKit

/-- what the law's Decide answers in a world: a value, as it is written, and an error -/
def LDecV (p : Int) (V : Option Addr → Nat → Option Addr → Nat → Value) (d : VD) (e : Int) (T : Value) (w : World) : Prop:=∀ W : World,Below w.heap.size w W → Calls Tryz.prog 11 #[.int .i64 p,T] W fun x w' => ∃ A C A2 C2,x = .returned (.tuple #[V A C A2 C2,.int .i64 e]) ∧ VB 0 W.heap.size w'.heap.size w' d A C A2 C2 ∧ Below W.heap.size W w'
theorem LDec.lit {p : Int} {d : VD} {e : Int} {T : Value} {w : World} (h : LDec p d e T w) (V : Option Addr → Nat → Option Addr → Nat → Value) (hV : ∀ A C A2 C2,vargs d A C A2 C2 = V A C A2 C2) : LDecV p V d e T w:=fun W hW => (h W hW).mono fun _ _ ⟨A,C,A2,C2,e1,h2,h3⟩ => ⟨A,C,A2,C2,by rw [e1,hV],h2,h3⟩
@[reducible] def zV (A : Option Addr) (C : Nat) (A2 : Option Addr) (C2 : Nat) : Value:=.agg #[.int .i64 0,.bool false,.bool false,.int .u64 0,.int .u64 0,.int .i64 0,.string ⟨#[]⟩,.int .i64 0,.slice A 0 C,.slice A2 0 C2]
end Go.Proofs.YtkjecoanlppeaaaGreatDoor



namespace Go.Proofs.YtkjecoanlppeaaaGreatDoor
open Go.RowKit

@[reducible] def lV (n : Nat) (A : Option Addr) (C : Nat) (A2 : Option Addr) (C2 : Nat) : Value:=.agg #[.int .i64 5,.bool false,.bool false,.int .u64 0,.int .u64 0,.int .i64 0,.string ⟨#[]⟩,.int .i64 0,.slice A n C,.slice A2 0 C2]
theorem ls_vargs {l : List VD} {n : Nat} (h : l.length = n) (A : Option Addr) (C : Nat) (A2 : Option Addr) (C2 : Nat) : vargs (lsV l) A C A2 C2 = lV n A C A2 C2:=by
 subst h
 rw [vargs,vagg]
 simp only [lsV,kindS,VD.s,VD.list,VD.names,wd_zero]
 rfl
theorem same_ls {l : List VD} {n : Nat} (h : l.length = n) (hs : (lsV l).size ≤ 1000) (A : Option Addr) (C : Nat) (A2 : Option Addr) (C2 : Nat) (B : Option Addr) (D : Nat) (B2 : Option Addr) (D2 : Nat) (W : World) (hx : VA W (lsV l) A C A2 C2) (hy : VA W (lsV l) B D B2 D2) :
  Calls Tryz.prog 12 #[.agg #[.int .i64 5,.bool false,.bool false,.int .u64 0,.int .u64 0,.int .i64 0,.string ⟨#[]⟩,.int .i64 0,.slice A n C,.slice A2 0 C2],.agg #[.int .i64 5,.bool false,.bool false,.int .u64 0,.int .u64 0,.int .i64 0,.string ⟨#[]⟩,.int .i64 0,.slice B n D,.slice B2 0 D2]] W fun e w' => e = .returned (.bool true) ∧ Below W.heap.size W w':=by
 have q:=same_self (lsV l) A C A2 C2 B D B2 D2 W hx hy hs
 rw [ls_vargs h,ls_vargs h] at q
 exact q
theorem ub_at {ub : List Bool} {k n : Nat} (hl : ub.length = n) (hk : k < n) : (ub.map Value.bool)[k]? = some (.bool (ub.getD k true)):=by
 rw [List.getElem?_map,List.getD_eq_getElem?_getD,List.getElem?_eq_getElem (by omega)];rfl
set_option maxRecDepth 100000 in
set_option maxHeartbeats 4000000 in
theorem lists_bad (N O R V : Value) (n nn on vn NC OC RC VC0 : Nat) (NA OA RA VA0 : Option Addr) (hN : N = .slice NA nn NC) (hO : O = .slice OA on OC) (hR : R = .slice RA n RC) (hV : V = .slice VA0 vn VC0) (w : World) (HK : Hid (∀ W : World,Below w.heap.size w W → Calls Tryz.prog 9 #[] W fun e w' => e = .returned (.bool true) ∧ Below W.heap.size W w')) (e : Int) (he : e ≠ 0) (h5 : LDecV 5 zV VD.zero e (.agg #[N,O,R,V]) w) (h6 : LDecV 6 zV VD.zero e (.agg #[N,O,R,V]) w) (h7 : LDecV 7 zV VD.zero e (.agg #[N,O,R,V]) w) :
  Calls Tryz.prog 5 #[.agg #[N,O,R,V]] w fun e w' => e = .returned (.bool true) ∧ Below w.heap.size w w':=by
 subst hN hO hR hV
 unfold LDecV at h5 h6 h7
 (try simp only [zV] at h5 h6 h7)
 have H5:=Lib.hid h5
 have H6:=Lib.hid h6
 have H7:=Lib.hid h7
 have he2 : (e != 0) = true:=by rw [bne_iff_ne];exact he
 clear h5 h6 h7 he
 go_enter Tryz.func5,Tryz.ntmps5
 go_wp2_with (first | ((go_at_call 9;with_reducible refine (HK.out _ (by (repeat' first|(with_reducible first|exact blR _ _|assumption|refine blD ?_|refine blN ?_ _)|((with_reducible first|refine blA ?_ ?_ _|refine blS ?_ ?_ _|refine blT (by assumption) ?_ ?_);focus (go_size;done))))).mono ?_);rintro _ w1 ⟨rfl,hb1⟩;have hb1s:=hb1.size;(try simp only [wsA,wsS,wsD,wsN] at hb1s);obtain ⟨hb1c,hb1f⟩:=bcell hb1;(try have : w.heap.size < w1.heap.size:=by omega);(try have : w.heap.size + 1 < w1.heap.size:=by omega);(try have : w.heap.size + 1 + 1 < w1.heap.size:=by omega);(try have : w.heap.size + 1 + 1 + 1 < w1.heap.size:=by omega)) | (go_at_call 11;(with_reducible refine (H5.out _ (by (repeat' first|(with_reducible first|exact blR _ _|assumption|refine blD ?_|refine blN ?_ _)|((with_reducible first|refine blA ?_ ?_ _|refine blS ?_ ?_ _|refine blT (by assumption) ?_ ?_);focus (go_size;done))))).mono ?_);rintro _ w2 ⟨A5,C5,B5,D5,rfl,hv5,hbw2⟩;have HV5:=Lib.hid hv5.va;clear hv5;have hbw2s:=hbw2.size;(try simp only [World.size_alloc] at hbw2s);(try have : w.heap.size < w2.heap.size:=by omega);(try have : w.heap.size + 1 < w2.heap.size:=by omega);(try have : w.heap.size + 1 + 1 < w2.heap.size:=by omega);(try have : w.heap.size + 1 + 1 + 1 < w2.heap.size:=by omega);(try have : w1.heap.size < w2.heap.size:=by omega);(try have : w1.heap.size + 1 < w2.heap.size:=by omega);(try have : w1.heap.size + 1 + 1 < w2.heap.size:=by omega);(try have : w1.heap.size + 1 + 1 + 1 < w2.heap.size:=by omega);obtain ⟨hbw2c,hbw2f⟩:=bcell hbw2) | (go_at_call 11;(with_reducible refine (H6.out _ (by (repeat' first|(with_reducible first|exact blR _ _|assumption|refine blD ?_|refine blN ?_ _)|((with_reducible first|refine blA ?_ ?_ _|refine blS ?_ ?_ _|refine blT (by assumption) ?_ ?_);focus (go_size;done))))).mono ?_);rintro _ w3 ⟨A6,C6,B6,D6,rfl,hv6,hbw3⟩;have HV6:=Lib.hid hv6.va;clear hv6;have hbw3s:=hbw3.size;(try simp only [World.size_alloc] at hbw3s);(try have : w.heap.size < w3.heap.size:=by omega);(try have : w.heap.size + 1 < w3.heap.size:=by omega);(try have : w.heap.size + 1 + 1 < w3.heap.size:=by omega);(try have : w.heap.size + 1 + 1 + 1 < w3.heap.size:=by omega);(try have : w2.heap.size < w3.heap.size:=by omega);(try have : w2.heap.size + 1 < w3.heap.size:=by omega);(try have : w2.heap.size + 1 + 1 < w3.heap.size:=by omega);(try have : w2.heap.size + 1 + 1 + 1 < w3.heap.size:=by omega);obtain ⟨hbw3c,hbw3f⟩:=bcell hbw3) | ((go_at_call 11;(with_reducible refine (H7.out _ (by (repeat' first|(with_reducible first|exact blR _ _|assumption|refine blD ?_|refine blN ?_ _)|((with_reducible first|refine blA ?_ ?_ _|refine blS ?_ ?_ _|refine blT (by assumption) ?_ ?_);focus (go_size;done))))).mono ?_);rintro _ w4 ⟨A7,C7,B7,D7,rfl,hv7,hbw4⟩;have HV7:=Lib.hid hv7.va;clear hv7;have hbw4s:=hbw4.size;(try simp only [World.size_alloc] at hbw4s);(try have : w.heap.size < w4.heap.size:=by omega);(try have : w.heap.size + 1 < w4.heap.size:=by omega);(try have : w.heap.size + 1 + 1 < w4.heap.size:=by omega);(try have : w.heap.size + 1 + 1 + 1 < w4.heap.size:=by omega);(try have : w3.heap.size < w4.heap.size:=by omega);(try have : w3.heap.size + 1 < w4.heap.size:=by omega);(try have : w3.heap.size + 1 + 1 < w4.heap.size:=by omega);(try have : w3.heap.size + 1 + 1 + 1 < w4.heap.size:=by omega);obtain ⟨hbw4c,hbw4f⟩:=bcell hbw4);(try have : w2.heap.size < w4.heap.size:=by omega);(try have : w2.heap.size + 1 < w4.heap.size:=by omega);(try have : w2.heap.size + 1 + 1 < w4.heap.size:=by omega);(try have : w2.heap.size + 1 + 1 + 1 < w4.heap.size:=by omega)))
 go_ret
 exact ⟨ret_bool (by simp),by (repeat' first|(with_reducible first|exact blR _ _|assumption|refine blD ?_|refine blN ?_ _)|((with_reducible first|refine blA ?_ ?_ _|refine blS ?_ ?_ _|refine blT (by assumption) ?_ ?_);focus (go_size;done)))⟩
set_option maxRecDepth 100000 in
set_option maxHeartbeats 8000000 in
theorem lists_good (N O R V : Value) (n nn on vn NC OC RC VC0 : Nat) (NA OA RA VA0 : Option Addr) (hN : N = .slice NA nn NC) (hO : O = .slice OA on OC) (hR : R = .slice RA n RC) (hV : V = .slice VA0 vn VC0) (w : World) (HK : Hid (∀ W : World,Below w.heap.size w W → Calls Tryz.prog 9 #[] W fun e w' => e = .returned (.bool true) ∧ Below W.heap.size W w')) (hT : Tabs w) (m : Nat) (hm : m ≤ 60) (hrm : n = 0 ∨ m = n) (l os : List VD) (hll : l.length = m) (hol : os.length = m) (hcnt : ∀ v,cO os v = cO l v) (hcl : ∀ t,t < l.length → chkV (vg l t) = 0) (hco : ∀ t,t < os.length → chkV (vg os t) = 0) (hs : (lsV l).size ≤ 1000) (hn6 : n ≤ 1048576) (d3 : VD) (e3 : Int) (h30 : 0 < m → d3 = vg os 0 ∧ e3 = 0)
  (h5 : LDecV 5 (lV m) (lsV l) 0 (.agg #[N,O,R,V]) w) (h6 : LDecV 6 (lV m) (lsV os) 0 (.agg #[N,O,R,V]) w) (h7 : LDecV 7 (lV m) (lsV l) 0 (.agg #[N,O,R,V]) w) (h3 : LDec 3 d3 e3 (.agg #[N,O,R,V]) w) :
  Calls Tryz.prog 5 #[.agg #[N,O,R,V]] w fun e w' => e = .returned (.bool true) ∧ Below w.heap.size w w':=by
 subst hN hO hR hV
 unfold LDecV at h5 h6 h7
 unfold LDec at h3
 (try simp only [lV] at h5 h6 h7)
 have H5:=Lib.hid h5
 have H6:=Lib.hid h6
 have H7:=Lib.hid h7
 have H3:=Lib.hid h3
 have HT:=Lib.hid hT
 have HLL:=Lib.hid hll
 have HOL:=Lib.hid hol
 have HCNT:=Lib.hid hcnt
 have HCL:=Lib.hid hcl
 have HCO:=Lib.hid hco
 have H30:=Lib.hid h30
 have HRM:=Lib.hid hrm
 have HSM:=Lib.hid (same_ls hll hs)
 have hmc : (m : Int) ≤ 60:=by omega
 have hm0 : (0 : Int) ≤ (m : Int):=by omega
 have hnc : (n : Int) ≤ 1048576:=by omega
 have hmk:=Lib.hid (make_bools m hm)
 clear h5 h6 h7 h3 hT hll hol hcnt hcl hco hs h30 hrm
 go_enter Tryz.func5,Tryz.ntmps5
 go_upto_region 12 with (first | ((go_at_call 9;with_reducible refine (HK.out _ (by (repeat' first|(with_reducible first|exact blR _ _|assumption|refine blD ?_|refine blN ?_ _)|((with_reducible first|refine blA ?_ ?_ _|refine blS ?_ ?_ _|refine blT (by assumption) ?_ ?_);focus (go_size;done))))).mono ?_);rintro _ w1 ⟨rfl,hb1⟩;have hb1s:=hb1.size;(try simp only [wsA,wsS,wsD,wsN] at hb1s);obtain ⟨hb1c,hb1f⟩:=bcell hb1;(try have : w.heap.size < w1.heap.size:=by omega);(try have : w.heap.size + 1 < w1.heap.size:=by omega);(try have : w.heap.size + 1 + 1 < w1.heap.size:=by omega);(try have : w.heap.size + 1 + 1 + 1 < w1.heap.size:=by omega)) | (go_at_call 11;(with_reducible refine (H5.out _ (by (repeat' first|(with_reducible first|exact blR _ _|assumption|refine blD ?_|refine blN ?_ _)|((with_reducible first|refine blA ?_ ?_ _|refine blS ?_ ?_ _|refine blT (by assumption) ?_ ?_);focus (go_size;done))))).mono ?_);rintro _ w2 ⟨A5,C5,B5,D5,rfl,hv5,hbw2⟩;have HV5:=Lib.hid hv5.va;clear hv5;have hbw2s:=hbw2.size;(try simp only [World.size_alloc] at hbw2s);(try have : w.heap.size < w2.heap.size:=by omega);(try have : w.heap.size + 1 < w2.heap.size:=by omega);(try have : w.heap.size + 1 + 1 < w2.heap.size:=by omega);(try have : w.heap.size + 1 + 1 + 1 < w2.heap.size:=by omega);(try have : w1.heap.size < w2.heap.size:=by omega);(try have : w1.heap.size + 1 < w2.heap.size:=by omega);(try have : w1.heap.size + 1 + 1 < w2.heap.size:=by omega);(try have : w1.heap.size + 1 + 1 + 1 < w2.heap.size:=by omega);obtain ⟨hbw2c,hbw2f⟩:=bcell hbw2) | (go_at_call 11;(with_reducible refine (H6.out _ (by (repeat' first|(with_reducible first|exact blR _ _|assumption|refine blD ?_|refine blN ?_ _)|((with_reducible first|refine blA ?_ ?_ _|refine blS ?_ ?_ _|refine blT (by assumption) ?_ ?_);focus (go_size;done))))).mono ?_);rintro _ w3 ⟨A6,C6,B6,D6,rfl,hv6,hbw3⟩;have HV6:=Lib.hid hv6.va;clear hv6;have hbw3s:=hbw3.size;(try simp only [World.size_alloc] at hbw3s);(try have : w.heap.size < w3.heap.size:=by omega);(try have : w.heap.size + 1 < w3.heap.size:=by omega);(try have : w.heap.size + 1 + 1 < w3.heap.size:=by omega);(try have : w.heap.size + 1 + 1 + 1 < w3.heap.size:=by omega);(try have : w2.heap.size < w3.heap.size:=by omega);(try have : w2.heap.size + 1 < w3.heap.size:=by omega);(try have : w2.heap.size + 1 + 1 < w3.heap.size:=by omega);(try have : w2.heap.size + 1 + 1 + 1 < w3.heap.size:=by omega);obtain ⟨hbw3c,hbw3f⟩:=bcell hbw3) | ((go_at_call 11;(with_reducible refine (H7.out _ (by (repeat' first|(with_reducible first|exact blR _ _|assumption|refine blD ?_|refine blN ?_ _)|((with_reducible first|refine blA ?_ ?_ _|refine blS ?_ ?_ _|refine blT (by assumption) ?_ ?_);focus (go_size;done))))).mono ?_);rintro _ w4 ⟨A7,C7,B7,D7,rfl,hv7,hbw4⟩;have HV7:=Lib.hid hv7.va;clear hv7;have hbw4s:=hbw4.size;(try simp only [World.size_alloc] at hbw4s);(try have : w.heap.size < w4.heap.size:=by omega);(try have : w.heap.size + 1 < w4.heap.size:=by omega);(try have : w.heap.size + 1 + 1 < w4.heap.size:=by omega);(try have : w.heap.size + 1 + 1 + 1 < w4.heap.size:=by omega);(try have : w3.heap.size < w4.heap.size:=by omega);(try have : w3.heap.size + 1 < w4.heap.size:=by omega);(try have : w3.heap.size + 1 + 1 < w4.heap.size:=by omega);(try have : w3.heap.size + 1 + 1 + 1 < w4.heap.size:=by omega);obtain ⟨hbw4c,hbw4f⟩:=bcell hbw4);(try have : w2.heap.size < w4.heap.size:=by omega);(try have : w2.heap.size + 1 < w4.heap.size:=by omega);(try have : w2.heap.size + 1 + 1 < w4.heap.size:=by omega);(try have : w2.heap.size + 1 + 1 + 1 < w4.heap.size:=by omega)) | (go_at_call 12;(with_reducible refine (HSM.out A5 C5 B5 D5 A7 C7 B7 D7 _ (va_below HV5.out (by (repeat' first|(with_reducible first|exact blR _ _|assumption|refine blD ?_|refine blN ?_ _)|((with_reducible first|refine blA ?_ ?_ _|refine blS ?_ ?_ _|refine blT (by assumption) ?_ ?_);focus (go_size;done))))) (va_below HV7.out (by (repeat' first|(with_reducible first|exact blR _ _|assumption|refine blD ?_|refine blN ?_ _)|((with_reducible first|refine blA ?_ ?_ _|refine blS ?_ ?_ _|refine blT (by assumption) ?_ ?_);focus (go_size;done)))))).mono ?_);rintro _ w6 ⟨rfl,hb6⟩;have hb6s:=hb6.size;(try simp only [World.size_alloc] at hb6s);(try have : w.heap.size < w6.heap.size:=by omega);(try have : w.heap.size + 1 < w6.heap.size:=by omega);(try have : w.heap.size + 1 + 1 < w6.heap.size:=by omega);(try have : w.heap.size + 1 + 1 + 1 < w6.heap.size:=by omega);(try have : w2.heap.size < w6.heap.size:=by omega);(try have : w2.heap.size + 1 < w6.heap.size:=by omega);(try have : w2.heap.size + 1 + 1 < w6.heap.size:=by omega);(try have : w2.heap.size + 1 + 1 + 1 < w6.heap.size:=by omega);(try have : w3.heap.size < w6.heap.size:=by omega);(try have : w3.heap.size + 1 < w6.heap.size:=by omega);(try have : w3.heap.size + 1 + 1 < w6.heap.size:=by omega);(try have : w3.heap.size + 1 + 1 + 1 < w6.heap.size:=by omega);(try have : w4.heap.size < w6.heap.size:=by omega);(try have : w4.heap.size + 1 < w6.heap.size:=by omega);(try have : w4.heap.size + 1 + 1 < w6.heap.size:=by omega);(try have : w4.heap.size + 1 + 1 + 1 < w6.heap.size:=by omega);obtain ⟨hb6c,hb6f⟩:=bcell hb6))
 have kR : Bk w6 w.heap.size 26 [.slice NA nn NC,.slice OA on OC,.slice RA n RC,.slice VA0 vn VC0]:=by (repeat (first|(with_reducible assumption)|((with_reducible refine bkW ?_);(first|rfl|(simp only [wsA,wsS,wsD,wsN];done)))|(with_reducible first|refine bkA ?_ _|refine bkD ?_|refine bkN ?_ _)|((with_reducible refine bkF ?_ ?_ _);focus (simp only [];omega))|((with_reducible refine bkB (by assumption) ?_ ?_);focus (go_size;done))))
 have k5 : Bk w6 w2.heap.size 34 [.int .i64 5,.bool false,.bool false,.int .u64 0,.int .u64 0,.int .i64 0,.string ⟨#[]⟩,.int .i64 0,.slice A5 m C5,.slice B5 0 D5]:=by (repeat (first|(with_reducible assumption)|((with_reducible refine bkW ?_);(first|rfl|(simp only [wsA,wsS,wsD,wsN];done)))|(with_reducible first|refine bkA ?_ _|refine bkD ?_|refine bkN ?_ _)|((with_reducible refine bkF ?_ ?_ _);focus (simp only [];omega))|((with_reducible refine bkB (by assumption) ?_ ?_);focus (go_size;done))))
 have k6 : Bk w6 w3.heap.size 34 [.int .i64 5,.bool false,.bool false,.int .u64 0,.int .u64 0,.int .i64 0,.string ⟨#[]⟩,.int .i64 0,.slice A6 m C6,.slice B6 0 D6]:=by (repeat (first|(with_reducible assumption)|((with_reducible refine bkW ?_);(first|rfl|(simp only [wsA,wsS,wsD,wsN];done)))|(with_reducible first|refine bkA ?_ _|refine bkD ?_|refine bkN ?_ _)|((with_reducible refine bkF ?_ ?_ _);focus (simp only [];omega))|((with_reducible refine bkB (by assumption) ?_ ?_);focus (go_size;done))))
 have m3 : Below w3.heap.size w3 w6:=by (repeat' first|(with_reducible first|exact blR _ _|assumption|refine blD ?_|refine blN ?_ _)|((with_reducible first|refine blA ?_ ?_ _|refine blS ?_ ?_ _|refine blT (by assumption) ?_ ?_);focus (go_size;done)))
 have m2 : Below w2.heap.size w2 w6:=by (repeat' first|(with_reducible first|exact blR _ _|assumption|refine blD ?_|refine blN ?_ _)|((with_reducible first|refine blA ?_ ?_ _|refine blS ?_ ?_ _|refine blT (by assumption) ?_ ?_);focus (go_size;done)))
 have mb : Below w.heap.size w w6:=by (repeat' first|(with_reducible first|exact blR _ _|assumption|refine blD ?_|refine blN ?_ _)|((with_reducible first|refine blA ?_ ?_ _|refine blS ?_ ?_ _|refine blT (by assumption) ?_ ?_);focus (go_size;done)))
 clear hb1 hb1c hb1f hbw2 hbw2c hbw2f hbw3 hbw3c hbw3f hbw4 hbw4c hbw4f hb6 hb6c hb6f HV7
 have l5:=k5.lt
 have l6:=k6.lt
 have lR:=kR.lt
 go_cut [80] from 68 (fun s80 wx => s80 = .bool false ∧ Hid (w6 = wx))
 case first =>
  have r0:=kR.cell 2 rfl
  have r5:=k5.cell 8 rfl
  rcases HRM.out with q | q
  ·have e1 : ¬ (0 : Int) < (n : Int):=by omega
   have e2 : ¬ 0 < n:=by omega
   clear q
   go_wp2_with fail
   go_meet
   exact ⟨rfl,Lib.hid rfl⟩
  ·have e1 : ((m : Int) != (n : Int)) = false:=by rw [bne_eq_false_iff_eq];omega
   clear q
   by_cases q0 : 0 < n
   ·have e2 : (0 : Int) < (n : Int):=by omega
    go_wp2_with fail
    go_meet
    exact ⟨rfl,Lib.hid rfl⟩
   ·have e2 : ¬ (0 : Int) < (n : Int):=by omega
    go_wp2_with fail
    go_meet
    exact ⟨rfl,Lib.hid rfl⟩
 case rest =>
 obtain ⟨rfl,hwc⟩:=hcut
 obtain rfl:=hwc.out
 clear hwc
 have HVL : Hid (Vls (RV w2) w2 (.slice A5 l.length C5) l):=Lib.hid (RV.list HV5.out).2.1
 have HVO : Hid (Vls (RV w3) w3 (.slice A6 os.length C6) os):=Lib.hid (RV.list HV6.out).2.1
 have hmk1:=hmk.out
 have r5:=k5.cell 8 rfl
 have r6:=k6.cell 8 rfl
 go_wp2_with fail
 clear hmk1 hmk r5 r6
 have hb0 : Bk (w6.alloc (.cells (Array.replicate m (.bool false)) 4)) w6.heap.size 4 ((List.replicate m false).map Value.bool):=by rw [List.map_replicate];exact Bk.zeros w6 4 m (.bool false) rfl
 obtain ⟨tb,htb⟩ : ∃ tb,tb = w6.heap.size:=⟨_,rfl⟩
 have hbl0 : Below tb w6 (w6.alloc (.cells (Array.replicate m (.bool false)) 4)):=by rw [htb];(repeat' first|(with_reducible first|exact blR _ _|assumption|refine blD ?_|refine blN ?_ _)|((with_reducible first|refine blA ?_ ?_ _|refine blS ?_ ?_ _|refine blT (by assumption) ?_ ?_);focus (go_size;done)))
 have hs0 : tb + 1 ≤ (w6.alloc (.cells (Array.replicate m (.bool false)) 4)).heap.size:=by rw [htb];go_size
 have HTB:=Lib.hid htb
 have l5t : w2.heap.size < tb:=by omega
 have l6t : w3.heap.size < tb:=by omega
 have lRt : w.heap.size < tb:=by omega
 rw [← htb] at hb0 ⊢
 clear htb
 generalize w6.alloc (.cells (Array.replicate m (.bool false)) 4) = wx at *
 go_loopg [10] m (fun k s10 wr => ∃ (t : Nat) (ub : List Bool),k + t = m ∧ s10 = .int .i64 t ∧ Hid (ub.length = m) ∧ Hid (∀ v,cU ub os v = cO (l.take t) v) ∧ Hid (Bk wr tb 4 (ub.map Value.bool)) ∧ tb + 1 ≤ wr.heap.size ∧ Below tb w6 wr)
 case atStart => exact ⟨0,List.replicate m false,by omega,rfl,Lib.hid (by simp),Lib.hid (fun v => by rw [cU_none];simp [cO]),Lib.hid hb0,hs0,hbl0⟩
 case round =>
  obtain ⟨t,ub,hk,rfl,HUL,HUC,HUB,hsz,hbel⟩:=hrel
  have HKO:=Lib.hid hk
  have htl : t ≤ m:=by omega
  have ltr : w2.heap.size < wr.heap.size:=by omega
  have ltr3 : w3.heap.size < wr.heap.size:=by omega
  clear hk hb0 hs0 hbl0
  have q5:=k5.below hbel l5t
  have q6:=k6.below hbel l6t
  have r5:=q5.cell 8 rfl
  have r6:=q6.cell 8 rfl
  have HQ5:=Lib.hid q5
  have HQ6:=Lib.hid q6
  by_cases hlt : t < m
  ·have htc : (t : Int) < (m : Int):=by omega
   clear q5 q6
   go_wp2_with fail
   clear r5 r6
   obtain ⟨wz,hwz⟩ : ∃ wz,wz = wr:=⟨_,rfl⟩
   subst hwz
   obtain ⟨g2,hg2⟩ : ∃ g,g = gk:=⟨_,rfl⟩
   subst hg2
   go_loopg [11,12] m (fun k s11 s12 wy => ∃ (kk : Nat) (fd : Bool) (vb : List Bool),k + kk = m ∧ s12 = .int .i64 kk ∧ s11 = .bool fd ∧ Hid (vb.length = m) ∧ Hid ((fd = true ∧ ∀ v,cU vb os v = cO (l.take (t + 1)) v) ∨ (fd = false ∧ vb = ub ∧ ∀ j,j < kk → ¬ (ub.getD j true = false ∧ sameB (vg os j) (vg l t) = true))) ∧ Hid (Bk wy tb 4 (vb.map Value.bool)) ∧ tb + 1 ≤ wy.heap.size ∧ Below tb w6 wy)
   case atStart => exact ⟨0,false,ub,by omega,rfl,rfl,HUL,Lib.hid (.inr ⟨rfl,rfl,fun j hj => absurd hj (Nat.not_lt_zero _)⟩),HUB,hsz,hbel⟩
   case round =>
    obtain ⟨kk,fd,vb,hk3,rfl,rfl,HVLN,HCS,HVB,hsz3,hbel3⟩:=hrel
    have HK3:=Lib.hid hk3
    have hkl : kk ≤ m:=by omega
    have htb3 : tb < wr.heap.size:=by omega
    have ltr4 : w2.heap.size < wr.heap.size:=by omega
    have ltr5 : w3.heap.size < wr.heap.size:=by omega
    clear hk3 ltr ltr3 hsz hbel
    have q5:=k5.below hbel3 l5t
    have q6:=k6.below hbel3 l6t
    have r5:=q5.cell 8 rfl
    have r6:=q6.cell 8 rfl
    clear q5 q6
    cases fd with
    | true =>
     have HCN : Hid (∀ v,cU vb os v = cO (l.take (t + 1)) v):=Lib.hid (by
      rcases HCS.out with ⟨_,h⟩ | ⟨h,_⟩
      ·exact h
      ·cases h)
     go_wp2_with fail
     go_roundg (g2 - 1)
     case measure => have:=HKO.out;omega
     case rel => exact ⟨t + 1,vb,by have:=HKO.out;omega,by go_num,HVLN,HCN,HVB,hsz3,hbel3⟩
    | false =>
     have hcs : vb = ub ∧ ∀ j,j < kk → ¬ (ub.getD j true = false ∧ sameB (vg os j) (vg l t) = true):=by
      rcases HCS.out with ⟨h,_⟩ | ⟨_,h⟩
      ·cases h
      ·exact h
     obtain ⟨hvu,hno⟩:=hcs
     have HNO:=Lib.hid hno
     subst hvu
     clear hno HCS
     by_cases hkt : kk < m
     ·have hkc : (kk : Int) < (m : Int):=by omega
      have ht:=HVB.out.cell kk (ub_at HVLN.out hkt)
      obtain ⟨bv,hbv⟩ : ∃ x,x = vb.getD kk true:=⟨_,rfl⟩
      rw [← hbv] at ht
      have HBV:=Lib.hid hbv
      clear hbv
      cases bv with
      | true =>
       go_wp2_with fail
       go_quiet (fail)
       go_wp2_with fail
       go_roundg (gk - 1)
       case measure => have:=HK3.out;omega
       case rel => exact ⟨kk + 1,false,vb,by have:=HK3.out;omega,by go_num,rfl,HVLN,Lib.hid (.inr ⟨rfl,rfl,fun j hj => by
        by_cases e : j = kk
        ·subst e
         intro h
         rw [← HBV.out] at h
         cases h.1
        ·exact HNO.out j (by omega)⟩),Lib.hid (by have k:=HVB.out;(repeat (first|(with_reducible assumption)|((with_reducible refine bkW ?_);(first|rfl|(simp only [wsA,wsS,wsD,wsN];done)))|(with_reducible first|refine bkA ?_ _|refine bkD ?_|refine bkN ?_ _)|((with_reducible refine bkF ?_ ?_ _);focus (simp only [];omega))|((with_reducible refine bkB (by assumption) ?_ ?_);focus (go_size;done))))),by go_size,by (repeat' first|(with_reducible first|exact blR _ _|assumption|refine blD ?_|refine blN ?_ _)|((with_reducible first|refine blA ?_ ?_ _|refine blS ?_ ?_ _|refine blT (by assumption) ?_ ?_);focus (go_size;done)))⟩
      | false =>
       obtain ⟨b6,o6,X1,E1,X2,E2,rfl,hat6,hx6⟩:=HVO.out.at (show kk < os.length by rw [HOL.out];exact hkt)
       obtain ⟨b5,o5,Y1,F1,Y2,F2,rfl,hat5,hx5⟩:=HVL.out.at (show t < l.length by rw [HLL.out];exact hlt)
       have hbw3 : Below w3.heap.size w3 wr:=m3.trans (hbel3.mono (by omega))
       have hbw2 : Below w2.heap.size w2 wr:=m2.trans (hbel3.mono (by omega))
       have hbw : Below w.heap.size w wr:=mb.trans (hbel3.mono (by omega))
       obtain ⟨a0,a1,a2,a3,a4,a5,a6,a7,a8,a9⟩:=(hat6.below hbw3).val
       obtain ⟨c0,c1,c2,c3,c4,c5,c6,c7,c8,c9⟩:=(hat5.below hbw2).val
       have la:=vcell_lt a0
       have lc:=vcell_lt c0
       obtain ⟨x,hx⟩ : ∃ x,x = vg os kk:=⟨_,rfl⟩
       obtain ⟨y,hy⟩ : ∃ y,y = vg l t:=⟨_,rfl⟩
       have hcx:=HCO.out kk (by rw [HOL.out];exact hkt)
       have hcy:=HCL.out t (by rw [HLL.out];exact hlt)
       rw [← hx] at a0 a1 a2 a3 a4 a5 a6 a7 a8 a9 hx6 hcx
       rw [← hy] at c0 c1 c2 c3 c4 c5 c6 c7 c8 c9 hx5 hcy
       have HX:=Lib.hid hx
       have HY:=Lib.hid hy
       have hsv : sameV x y = sameB x y:=by unfold sameV;rw [decide_eq_true hcx,decide_eq_true hcy];rfl
       have hc:=fun (W : World) (hW : Below wr.heap.size wr W) => vsame_any x y X1 E1 X2 E2 Y1 F1 Y2 F2 W (tabs_below HT.out (hbw.trans (hW.mono hbw.size))) (RV.below hx6 (hbw3.trans (hW.mono hbw3.size))) (RV.below hx5 (hbw2.trans (hW.mono hbw2.size)))
       rw [hsv] at hc
       obtain ⟨sm,hsm⟩ : ∃ s,s = sameB x y:=⟨_,rfl⟩
       rw [← hsm] at hc
       have HSMB:=Lib.hid hsm
       obtain ⟨p1,hp1⟩ : ∃ n,n = x.list.length:=⟨_,rfl⟩
       obtain ⟨p2,hp2⟩ : ∃ n,n = x.names.length:=⟨_,rfl⟩
       obtain ⟨p3,hp3⟩ : ∃ n,n = y.list.length:=⟨_,rfl⟩
       obtain ⟨p4,hp4⟩ : ∃ n,n = y.names.length:=⟨_,rfl⟩
       obtain ⟨u,hu⟩ : ∃ u,u = x.s:=⟨_,rfl⟩
       obtain ⟨v,hv⟩ : ∃ v,v = y.s:=⟨_,rfl⟩
       unfold vargs vagg at hc
       rw [← hp1,← hp2,← hp3,← hp4,← hu,← hv] at hc
       rw [← hp1] at a8
       rw [← hp2] at a9
       rw [← hp3] at c8
       rw [← hp4] at c9
       rw [← hu] at a0 a1 a2 a3 a4 a5 a6 a7
       rw [← hv] at c0 c1 c2 c3 c4 c5 c6 c7
       have HC:=Lib.hid hc
       clear hat6 hx6 hat5 hx5 hbw3 hbw2 hx hy hcx hcy hsv hc hsm hp1 hp2 hp3 hp4 hu hv
       go_wp2_with fail
       go_region_held3 (fun w' => w'.cell? ⟨tb,kk,none⟩ = some (.bool false) ∧ w'.cell? ⟨w3.heap.size,8,none⟩ = some (.slice (some ⟨b6,o6,none⟩) m C6) ∧ w'.cell? ⟨w2.heap.size,8,none⟩ = some (.slice (some ⟨b5,o5,none⟩) m C5) ∧ w'.cell? ⟨b6,o6 + kk * 10,none⟩ = some (.int .i64 u.kind) ∧ w'.cell? ⟨b6,o6 + kk * 10 + 1,none⟩ = some (.bool u.yes) ∧ w'.cell? ⟨b6,o6 + kk * 10 + 2,none⟩ = some (.bool u.neg) ∧ w'.cell? ⟨b6,o6 + kk * 10 + 3,none⟩ = some (.int .u64 (wd u.coef 1)) ∧ w'.cell? ⟨b6,o6 + kk * 10 + 4,none⟩ = some (.int .u64 (wd u.coef 0)) ∧ w'.cell? ⟨b6,o6 + kk * 10 + 5,none⟩ = some (.int .i64 u.sc) ∧ w'.cell? ⟨b6,o6 + kk * 10 + 6,none⟩ = some (.string ⟨u.text.toArray⟩) ∧ w'.cell? ⟨b6,o6 + kk * 10 + 7,none⟩ = some (.int .i64 u.day) ∧ w'.cell? ⟨b6,o6 + kk * 10 + 8,none⟩ = some (.slice X1 p1 E1) ∧ w'.cell? ⟨b6,o6 + kk * 10 + 9,none⟩ = some (.slice X2 p2 E2) ∧ w'.cell? ⟨b5,o5 + t * 10,none⟩ = some (.int .i64 v.kind) ∧ w'.cell? ⟨b5,o5 + t * 10 + 1,none⟩ = some (.bool v.yes) ∧ w'.cell? ⟨b5,o5 + t * 10 + 2,none⟩ = some (.bool v.neg) ∧ w'.cell? ⟨b5,o5 + t * 10 + 3,none⟩ = some (.int .u64 (wd v.coef 1)) ∧ w'.cell? ⟨b5,o5 + t * 10 + 4,none⟩ = some (.int .u64 (wd v.coef 0)) ∧ w'.cell? ⟨b5,o5 + t * 10 + 5,none⟩ = some (.int .i64 v.sc) ∧ w'.cell? ⟨b5,o5 + t * 10 + 6,none⟩ = some (.string ⟨v.text.toArray⟩) ∧ w'.cell? ⟨b5,o5 + t * 10 + 7,none⟩ = some (.int .i64 v.day) ∧ w'.cell? ⟨b5,o5 + t * 10 + 8,none⟩ = some (.slice Y1 p3 F1) ∧ w'.cell? ⟨b5,o5 + t * 10 + 9,none⟩ = some (.slice Y2 p4 F2)) (first | (first | (go_keep;done) | (simp [go_sem];done) | ((try dsimp only);(repeat' apply And.intro) <;> (first | (with_reducible assumption) | ((rw [World.cell?_alloc_lt _ _ _ (by show _ < _;omega)]);go_split_ands;(first | with_reducible assumption | (refine (World.cell?_alloc_lt _ _ _ (by show _ < _;omega)).symm.trans ?_;with_reducible assumption))) | ((rw [World.cell?_setCell_other _ _ _ _ (by intro e;injection e;omega)]);with_reducible assumption) | (go_keep;done) | (simp [go_sem];done) | (simp (disch:=go_size) [*,World.cell?_alloc_some,World.cell?_setCell_far];done))))) (first | ((go_at_call 13;with_reducible refine (HC.out _ (by (repeat' first|(with_reducible first|exact blR _ _|assumption|refine blD ?_|refine blN ?_ _)|((with_reducible first|refine blA ?_ ?_ _|refine blS ?_ ?_ _|refine blT (by assumption) ?_ ?_);focus (go_size;done))))).mono ?_);rintro _ w8 ⟨rfl,hb8⟩;have hb8s:=hb8.size;(try simp only [wsA,wsS,wsD,wsN] at hb8s);obtain ⟨hb8c,hb8f⟩:=bcell hb8;(try have : w.heap.size < w8.heap.size:=by omega);(try have : w.heap.size + 1 < w8.heap.size:=by omega);(try have : w.heap.size + 1 + 1 < w8.heap.size:=by omega);(try have : w.heap.size + 1 + 1 + 1 < w8.heap.size:=by omega)))
       have kU : Bk w8 tb 4 (vb.map Value.bool):=by
        have k:=HVB.out
        (repeat (first|(with_reducible assumption)|((with_reducible refine bkW ?_);(first|rfl|(simp only [wsA,wsS,wsD,wsN];done)))|(with_reducible first|refine bkA ?_ _|refine bkD ?_|refine bkN ?_ _)|((with_reducible refine bkF ?_ ?_ _);focus (simp only [];omega))|((with_reducible refine bkB (by assumption) ?_ ?_);focus (go_size;done))))
       have hbw8 : Below tb w6 w8:=by (repeat' first|(with_reducible first|exact blR _ _|assumption|refine blD ?_|refine blN ?_ _)|((with_reducible first|refine blA ?_ ?_ _|refine blS ?_ ?_ _|refine blT (by assumption) ?_ ?_);focus (go_size;done)))
       have hsz8 : tb + 1 ≤ w8.heap.size:=by omega
       have ht8:=kU.cell kk (ub_at HVLN.out hkt)
       rw [← HBV.out] at ht8
       have hf8:=kU.frozen kk
       have KU:=Lib.hid kU
       clear kU hb8 hb8c hb8f a0 a1 a2 a3 a4 a5 a6 a7 a8 a9 c0 c1 c2 c3 c4 c5 c6 c7 c8 c9 r5 r6 ht
       cases sm with
       | true =>
        go_wp2_with fail
        go_roundg (gk - 1)
        case measure => have:=HK3.out;omega
        case rel =>
         refine ⟨kk + 1,true,vb.set kk true,by have:=HK3.out;omega,by go_num,rfl,Lib.hid (by rw [List.length_set];exact HVLN.out),Lib.hid (.inl ⟨rfl,fun v' => ?_⟩),Lib.hid ?_,by go_size, ?_⟩
         ·rw [cU_set (by rw [HVLN.out,HOL.out]) (by rw [HOL.out];exact hkt) HBV.out.symm,HUC.out v',cO_take (by rw [HLL.out];exact hlt)]
          have e : vg os kk = vg l t:=by
           rw [← HX.out,← HY.out]
           exact sameB_iff.1 HSMB.out.symm
          rw [e]
         ·rw [List.map_set]
          exact KU.out.set_ kk (.bool true)
         ·exact hbw8.setCell (by show tb ≤ tb;omega) _
       | false =>
        go_wp2_with fail
        go_roundg (gk - 1)
        case measure => have:=HK3.out;omega
        case rel => exact ⟨kk + 1,false,vb,by have:=HK3.out;omega,by go_num,rfl,HVLN,Lib.hid (.inr ⟨rfl,rfl,fun j hj => by
         by_cases e : j = kk
         ·subst e
          intro h
          have h2:=h.2
          rw [← HX.out,← HY.out,← HSMB.out] at h2
          cases h2
         ·exact HNO.out j (by omega)⟩),KU,hsz8,hbw8⟩
     ·exfalso
      have hkm : kk = m:=by omega
      obtain ⟨j,j1,j2,j3⟩:=cU_free (bs:=vb) (l:=os) (v:=vg l t) (by rw [HVLN.out,HOL.out]) (by
       rw [HUC.out (vg l t),HCNT.out (vg l t)]
       have h1:=cO_take (l:=l) (t:=t) (by rw [HLL.out];exact hlt) (vg l t)
       rw [sameB_self,if_pos rfl] at h1
       have h2:=cO_take_le l (t + 1) (vg l t)
       omega)
      exact HNO.out j (by rw [HOL.out] at j1;omega) ⟨j2,j3⟩
  ·have htm : t = m:=by omega
   have htmc : ¬ (t : Int) < (m : Int):=by omega
   clear hlt htm
   have hbw : Below w.heap.size w wr:=mb.trans (hbel.mono (by omega))
   have qR:=kR.below hbel lRt
   have d0:=qR.cell 0 rfl
   have d1:=qR.cell 1 rfl
   have d2:=qR.cell 2 rfl
   have d3':=qR.cell 3 rfl
   have lqR:=qR.lt
   clear qR
   by_cases h0 : m = 0
   ·have e1 : ((m : Int) == 0) = true:=by rw [beq_iff_eq];omega
    clear h0
    go_wp2_with ((go_at_call 11;(with_reducible refine (H3.out _ (by (repeat' first|(with_reducible first|exact blR _ _|assumption|refine blD ?_|refine blN ?_ _)|((with_reducible first|refine blA ?_ ?_ _|refine blS ?_ ?_ _|refine blT (by assumption) ?_ ?_);focus (go_size;done))))).mono ?_);rintro _ w9 ⟨A3,C3,B3,D3,rfl,hv3,hbw9⟩;have HV3:=Lib.hid hv3.va;clear hv3;have hbw9s:=hbw9.size;(try simp only [World.size_alloc] at hbw9s);(try have : w.heap.size < w9.heap.size:=by omega);(try have : w.heap.size + 1 < w9.heap.size:=by omega);(try have : w.heap.size + 1 + 1 < w9.heap.size:=by omega);(try have : w.heap.size + 1 + 1 + 1 < w9.heap.size:=by omega);(try have : w.heap.size < w9.heap.size:=by omega);(try have : w.heap.size + 1 < w9.heap.size:=by omega);(try have : w.heap.size + 1 + 1 < w9.heap.size:=by omega);(try have : w.heap.size + 1 + 1 + 1 < w9.heap.size:=by omega);obtain ⟨hbw9c,hbw9f⟩:=bcell hbw9))
    have g6 : (w9.alloc (.cells #[.int .i64 d3.s.kind,.bool d3.s.yes,.bool d3.s.neg,.int .u64 (wd d3.s.coef 1),.int .u64 (wd d3.s.coef 0),.int .i64 d3.s.sc,.string ⟨d3.s.text.toArray⟩,.int .i64 d3.s.day,.slice A3 d3.list.length C3,.slice B3 d3.names.length D3] 34)).cell? ⟨w3.heap.size,8,none⟩ = some (.slice A6 m C6):=by
     have k:=HQ6.out
     have k2 : Bk (w9.alloc (.cells #[.int .i64 d3.s.kind,.bool d3.s.yes,.bool d3.s.neg,.int .u64 (wd d3.s.coef 1),.int .u64 (wd d3.s.coef 0),.int .i64 d3.s.sc,.string ⟨d3.s.text.toArray⟩,.int .i64 d3.s.day,.slice A3 d3.list.length C3,.slice B3 d3.names.length D3] 34)) w3.heap.size 34 [.int .i64 5,.bool false,.bool false,.int .u64 0,.int .u64 0,.int .i64 0,.string ⟨#[]⟩,.int .i64 0,.slice A6 m C6,.slice B6 0 D6]:=by (repeat (first|(with_reducible assumption)|((with_reducible refine bkW ?_);(first|rfl|(simp only [wsA,wsS,wsD,wsN];done)))|(with_reducible first|refine bkA ?_ _|refine bkD ?_|refine bkN ?_ _)|((with_reducible refine bkF ?_ ?_ _);focus (simp only [];omega))|((with_reducible refine bkB (by assumption) ?_ ?_);focus (go_size;done))))
     exact k2.cell 8 rfl
    go_quiet (fail)
    go_wp2_with fail
    go_ret
    exact ⟨ret_bool (by simp),by (repeat' first|(with_reducible first|exact blR _ _|assumption|refine blD ?_|refine blN ?_ _)|((with_reducible first|refine blA ?_ ?_ _|refine blS ?_ ?_ _|refine blT (by assumption) ?_ ?_);focus (go_size;done)))⟩
   ·have e1 : ((m : Int) == 0) = false:=by rw [beq_eq_false_iff_ne];omega
    obtain ⟨hd3,he3⟩:=H30.out (by omega)
    subst he3
    obtain ⟨b6,o6,X1,E1,X2,E2,rfl,hat6,hx6⟩:=HVO.out.at (show 0 < os.length by rw [HOL.out];omega)
    rw [Nat.zero_mul,Nat.add_zero] at hat6
    have hbw3 : Below w3.heap.size w3 wr:=m3.trans (hbel.mono (by omega))
    have lx:=vcell_lt (hat6.below hbw3).val.1
    have hs3 : d3.size ≤ 1000:=by rw [hd3];exact chk_size (HCO.out 0 (by rw [HOL.out];omega))
    rw [← hd3] at hat6 hx6
    have HAT:=Lib.hid (hat6.below hbw3)
    have HXV:=Lib.hid (RV.below hx6 hbw3)
    have HS3:=Lib.hid (fun (A C A2 C2 B D B2 D2 W) (hx : VA W d3 A C A2 C2) (hy : VA W d3 B D B2 D2) => same_self d3 A C A2 C2 B D B2 D2 W hx hy hs3)
    have e6 : 0 < m:=by omega
    clear hd3 hat6 hx6 hbw3 hs3 h0
    go_wp2_with ((go_at_call 11;(with_reducible refine (H3.out _ (by (repeat' first|(with_reducible first|exact blR _ _|assumption|refine blD ?_|refine blN ?_ _)|((with_reducible first|refine blA ?_ ?_ _|refine blS ?_ ?_ _|refine blT (by assumption) ?_ ?_);focus (go_size;done))))).mono ?_);rintro _ w9 ⟨A3,C3,B3,D3,rfl,hv3,hbw9⟩;have HV3:=Lib.hid hv3.va;clear hv3;have hbw9s:=hbw9.size;(try simp only [World.size_alloc] at hbw9s);(try have : w.heap.size < w9.heap.size:=by omega);(try have : w.heap.size + 1 < w9.heap.size:=by omega);(try have : w.heap.size + 1 + 1 < w9.heap.size:=by omega);(try have : w.heap.size + 1 + 1 + 1 < w9.heap.size:=by omega);(try have : w.heap.size < w9.heap.size:=by omega);(try have : w.heap.size + 1 < w9.heap.size:=by omega);(try have : w.heap.size + 1 + 1 < w9.heap.size:=by omega);(try have : w.heap.size + 1 + 1 + 1 < w9.heap.size:=by omega);obtain ⟨hbw9c,hbw9f⟩:=bcell hbw9))
    have k2 : Bk (w9.alloc (.cells #[.int .i64 d3.s.kind,.bool d3.s.yes,.bool d3.s.neg,.int .u64 (wd d3.s.coef 1),.int .u64 (wd d3.s.coef 0),.int .i64 d3.s.sc,.string ⟨d3.s.text.toArray⟩,.int .i64 d3.s.day,.slice A3 d3.list.length C3,.slice B3 d3.names.length D3] 34)) w3.heap.size 34 [.int .i64 5,.bool false,.bool false,.int .u64 0,.int .u64 0,.int .i64 0,.string ⟨#[]⟩,.int .i64 0,.slice (some ⟨b6,o6,none⟩) m C6,.slice B6 0 D6]:=by
     have k:=HQ6.out
     (repeat (first|(with_reducible assumption)|((with_reducible refine bkW ?_);(first|rfl|(simp only [wsA,wsS,wsD,wsN];done)))|(with_reducible first|refine bkA ?_ _|refine bkD ?_|refine bkN ?_ _)|((with_reducible refine bkF ?_ ?_ _);focus (simp only [];omega))|((with_reducible refine bkB (by assumption) ?_ ?_);focus (go_size;done))))
    have g6:=k2.cell 8 rfl
    have k3 : Bk (w9.alloc (.cells #[.int .i64 d3.s.kind,.bool d3.s.yes,.bool d3.s.neg,.int .u64 (wd d3.s.coef 1),.int .u64 (wd d3.s.coef 0),.int .i64 d3.s.sc,.string ⟨d3.s.text.toArray⟩,.int .i64 d3.s.day,.slice A3 d3.list.length C3,.slice B3 d3.names.length D3] 34)) w9.heap.size 34 (vcs d3 A3 C3 B3 D3):=Bk.new_ (cs:=vcs d3 A3 C3 B3 D3) rfl
    have hbz : Below wr.heap.size wr (w9.alloc (.cells #[.int .i64 d3.s.kind,.bool d3.s.yes,.bool d3.s.neg,.int .u64 (wd d3.s.coef 1),.int .u64 (wd d3.s.coef 0),.int .i64 d3.s.sc,.string ⟨d3.s.text.toArray⟩,.int .i64 d3.s.day,.slice A3 d3.list.length C3,.slice B3 d3.names.length D3] 34)):=by (repeat' first|(with_reducible first|exact blR _ _|assumption|refine blD ?_|refine blN ?_ _)|((with_reducible first|refine blA ?_ ?_ _|refine blS ?_ ?_ _|refine blT (by assumption) ?_ ?_);focus (go_size;done)))
    have hb9 : Below w9.heap.size w9 (w9.alloc (.cells #[.int .i64 d3.s.kind,.bool d3.s.yes,.bool d3.s.neg,.int .u64 (wd d3.s.coef 1),.int .u64 (wd d3.s.coef 0),.int .i64 d3.s.sc,.string ⟨d3.s.text.toArray⟩,.int .i64 d3.s.day,.slice A3 d3.list.length C3,.slice B3 d3.names.length D3] 34)):=by (repeat' first|(with_reducible first|exact blR _ _|assumption|refine blD ?_|refine blN ?_ _)|((with_reducible first|refine blA ?_ ?_ _|refine blS ?_ ?_ _|refine blT (by assumption) ?_ ?_);focus (go_size;done)))
    have hbf : Below w.heap.size w (w9.alloc (.cells #[.int .i64 d3.s.kind,.bool d3.s.yes,.bool d3.s.neg,.int .u64 (wd d3.s.coef 1),.int .u64 (wd d3.s.coef 0),.int .i64 d3.s.sc,.string ⟨d3.s.text.toArray⟩,.int .i64 d3.s.day,.slice A3 d3.list.length C3,.slice B3 d3.names.length D3] 34)):=by (repeat' first|(with_reducible first|exact blR _ _|assumption|refine blD ?_|refine blN ?_ _)|((with_reducible first|refine blA ?_ ?_ _|refine blS ?_ ?_ _|refine blT (by assumption) ?_ ?_);focus (go_size;done)))
    generalize hWW : (w9.alloc (.cells #[.int .i64 d3.s.kind,.bool d3.s.yes,.bool d3.s.neg,.int .u64 (wd d3.s.coef 1),.int .u64 (wd d3.s.coef 0),.int .i64 d3.s.sc,.string ⟨d3.s.text.toArray⟩,.int .i64 d3.s.day,.slice A3 d3.list.length C3,.slice B3 d3.names.length D3] 34)) = WW at *
    obtain ⟨f0,f1,f2,f3,f4,f5,f6,f7,f8,f9⟩:=k3.vcd
    obtain ⟨a0,a1,a2,a3,a4,a5,a6,a7,a8,a9⟩:=(HAT.out.below hbz).val
    have l3:=k3.lt
    have l2:=k2.lt
    have la:=vcell_lt a0
    have HC:=Lib.hid (fun (X : World) (hX : Below WW.heap.size WW X) => HS3.out A3 C3 B3 D3 X1 E1 X2 E2 X (va_bel2 HV3.out (hb9.trans (hX.mono hb9.size))) (RV.below HXV.out (hbz.trans (hX.mono hbz.size))))
    clear k2 k3 hWW hbw9 hbw9c hbw9f
    have e5 : (0 : Int) < (m : Int):=by omega
    go_region_held3 (fun w' => w'.cell? ⟨w3.heap.size,8,none⟩ = some (.slice (some ⟨b6,o6,none⟩) m C6) ∧ w'.cell? ⟨w9.heap.size,0,none⟩ = some (.int .i64 d3.s.kind) ∧ w'.cell? ⟨w9.heap.size,1,none⟩ = some (.bool d3.s.yes) ∧ w'.cell? ⟨w9.heap.size,2,none⟩ = some (.bool d3.s.neg) ∧ w'.cell? ⟨w9.heap.size,3,none⟩ = some (.int .u64 (wd d3.s.coef 1)) ∧ w'.cell? ⟨w9.heap.size,4,none⟩ = some (.int .u64 (wd d3.s.coef 0)) ∧ w'.cell? ⟨w9.heap.size,5,none⟩ = some (.int .i64 d3.s.sc) ∧ w'.cell? ⟨w9.heap.size,6,none⟩ = some (.string ⟨d3.s.text.toArray⟩) ∧ w'.cell? ⟨w9.heap.size,7,none⟩ = some (.int .i64 d3.s.day) ∧ w'.cell? ⟨w9.heap.size,8,none⟩ = some (.slice A3 d3.list.length C3) ∧ w'.cell? ⟨w9.heap.size,9,none⟩ = some (.slice B3 d3.names.length D3) ∧ w'.cell? ⟨b6,o6,none⟩ = some (.int .i64 d3.s.kind) ∧ w'.cell? ⟨b6,o6 + 1,none⟩ = some (.bool d3.s.yes) ∧ w'.cell? ⟨b6,o6 + 2,none⟩ = some (.bool d3.s.neg) ∧ w'.cell? ⟨b6,o6 + 3,none⟩ = some (.int .u64 (wd d3.s.coef 1)) ∧ w'.cell? ⟨b6,o6 + 4,none⟩ = some (.int .u64 (wd d3.s.coef 0)) ∧ w'.cell? ⟨b6,o6 + 5,none⟩ = some (.int .i64 d3.s.sc) ∧ w'.cell? ⟨b6,o6 + 6,none⟩ = some (.string ⟨d3.s.text.toArray⟩) ∧ w'.cell? ⟨b6,o6 + 7,none⟩ = some (.int .i64 d3.s.day) ∧ w'.cell? ⟨b6,o6 + 8,none⟩ = some (.slice X1 d3.list.length E1) ∧ w'.cell? ⟨b6,o6 + 9,none⟩ = some (.slice X2 d3.names.length E2)) (first | (first | (go_keep;done) | (simp [go_sem];done) | ((try dsimp only);(repeat' apply And.intro) <;> (first | (with_reducible assumption) | ((rw [World.cell?_alloc_lt _ _ _ (by show _ < _;omega)]);go_split_ands;(first | with_reducible assumption | (refine (World.cell?_alloc_lt _ _ _ (by show _ < _;omega)).symm.trans ?_;with_reducible assumption))) | ((rw [World.cell?_setCell_other _ _ _ _ (by intro e;injection e;omega)]);with_reducible assumption) | (go_keep;done) | (simp [go_sem];done) | (simp (disch:=go_size) [*,World.cell?_alloc_some,World.cell?_setCell_far];done))))) (first | ((go_at_call 12;with_reducible refine (HC.out _ (by (repeat' first|(with_reducible first|exact blR _ _|assumption|refine blD ?_|refine blN ?_ _)|((with_reducible first|refine blA ?_ ?_ _|refine blS ?_ ?_ _|refine blT (by assumption) ?_ ?_);focus (go_size;done))))).mono ?_);rintro _ w10 ⟨rfl,hb10⟩;have hb10s:=hb10.size;(try simp only [wsA,wsS,wsD,wsN] at hb10s);obtain ⟨hb10c,hb10f⟩:=bcell hb10;(try have : w.heap.size < w10.heap.size:=by omega);(try have : w.heap.size + 1 < w10.heap.size:=by omega);(try have : w.heap.size + 1 + 1 < w10.heap.size:=by omega);(try have : w.heap.size + 1 + 1 + 1 < w10.heap.size:=by omega)))
    go_wp2_with fail
    go_ret
    exact ⟨ret_bool (by simp),by (repeat' first|(with_reducible first|exact blR _ _|assumption|refine blD ?_|refine blN ?_ _)|((with_reducible first|refine blA ?_ ?_ _|refine blS ?_ ?_ _|refine blT (by assumption) ?_ ?_);focus (go_size;done)))⟩
theorem walk_lists (names : List (List UInt8)) (order rows : List (List VD)) (other : List VD) (N O R V : Value) (w : World) (hT : Tabs w) (hn : Nms w N names) (ho : Lls w O order) (hr : Lls w R rows) (hv : Vls (RV w) w V other) :
  Calls Tryz.prog 5 #[.agg #[N,O,R,V]] w fun e w' => e = .returned (.bool true) ∧ Below w.heap.size w w':=by
 have HK:=Lib.hid (fun (W : World) (hW : Below w.heap.size w W) => known18_any W (tabs_below hT hW))
 have L:=fun (p : Int) (d : VD) (e : Int) (h : decAll p names order rows other = (d,e)) => ldec_of p hT hn ho hr hv h
 obtain ⟨NA,NC,eN,_⟩:=hn.is
 obtain ⟨OA,OC,eO,_⟩:=ho.is
 obtain ⟨RA,RC,eR,hR6,_⟩:=hr.is
 obtain ⟨VA0,VC0,eV,hV6⟩:=hv.is
 rcases lists_plain names order rows other with ⟨e,he,h5,h6,h7⟩ | ⟨l,os,h5,h7,h6,hol,h60,hrows,hcnt,hcl,hco,h3⟩
 ·exact lists_bad N O R V _ _ _ _ _ _ _ _ _ _ _ _ eN eO eR eV w HK e he ((L 5 _ _ h5).lit zV zero_vargsX) ((L 6 _ _ h6).lit zV zero_vargsX) ((L 7 _ _ h7).lit zV zero_vargsX)
 ·have hsz : (lsV l).size ≤ 1000:=by
   have h:=decAll_size 5 names order rows other
   replace h5 : decAll 5 names order rows other = (lsV l,0):=h5
   rw [h5] at h
   exact h
  have l3:=L 3 (decAll 3 names order rows other).1 (decAll 3 names order rows other).2 rfl
  refine lists_good N O R V _ _ _ _ _ _ _ _ _ _ _ _ eN eO eR eV w HK hT l.length h60 (by
   rcases Nat.eq_zero_or_pos rows.length with h | h
   ·exact .inl h
   ·exact .inr (hrows h)) l os rfl hol hcnt hcl hco hsz hR6 _ _ (fun h => ?_) ((L 5 _ _ h5).lit _ (ls_vargs rfl)) ((L 6 _ _ h6).lit _ (ls_vargs hol)) ((L 7 _ _ h7).lit _ (ls_vargs rfl)) l3
  have q:=h3 h
  replace q : decAll 3 names order rows other = (vg os 0,0):=q
  rw [q]
  exact ⟨rfl,rfl⟩
end Go.Proofs.YtkjecoanlppeaaaGreatDoor



namespace Go.Proofs.YtkjecoanlppeaaaGreatDoor
open Go.RowKit
open Go.ChangeShapes Go.WideShapes Go.ChangeAt
open Go.ChangeMaps (open_string shut_string)

set_option maxRecDepth 100000 in
theorem open_table {H : Type} {enc : TypeId × Value → H} {W : World} {base b0 : Nat} {v : Value} {d : DataW H} {p : List MemPlace} {sp : Nat → Bool} {held : Bool}
  (hv : Value.okWide Tryz.prog W .any base 26 v) (h : DataW.Trod enc Tryz.prog W b0 sp held 26 v d p) (hb : Rows.uptoBulk d ≤ 1048576) :
  ∃ (N O R V : Value) (names : List (List UInt8)) (order rows : List (List VD)) (other : List VD),v = .agg #[N,O,R,V] ∧ Nms W N names ∧ Lls W O order ∧ Lls W R rows ∧ Vls (RV W) W V other ∧ (∀ t,t < order.length → SmallL (lg order t)) ∧ (∀ t,t < rows.length → SmallL (lg rows t)) ∧ SmallL other:=by
 obtain ⟨c0,c1,c2,c3,y0,y1,y2,y3,m,rfl,rfl,rfl,h0,h1,h2,h3⟩:=Joins.open_agg4 Tryz.underlying26 (by kernel_rfl) (by kernel_rfl) hv h
 simp only [Rows.uptoBulk,Rows.uptoBulkAll] at hb
 obtain ⟨_,_,names,_,hn⟩:=open_names h0 (by omega)
 obtain ⟨_,_,order,_,ho,hso⟩:=open_lls h1 (by omega)
 obtain ⟨_,_,rows,_,hr,hsr⟩:=open_lls h2 (by omega)
 obtain ⟨_,_,other,_,hv,hs⟩:=open_vls h3 (by omega)
 exact ⟨c0,c1,c2,c3,names,order,rows,other,rfl,hn,ho,hr,hv,hso,hsr,smallL_of (by omega)⟩
@[reducible] def tabZ : Value:=.agg #[.slice none 0 0,.slice none 0 0,.slice none 0 0,.slice none 0 0]
end Go.Proofs.YtkjecoanlppeaaaGreatDoor

