/- What this law reaches beyond the common contracts, part 3. -/
import Derived.Test.YtkjecoanlppeaaaGreatDoorCards
import Derived.Test.YtkjecoanlppeaaaGreatDoorTie
import Derived.Deep.DeepHandedRow
import Derived.LaidMore
import Derived.Lay
import Derived.SevenTiedAt
import Derived.Test.YtkjecoanlppeaaaGreatDoorM5
import Derived.Test.YtkjecoanlppeaaaGreatDoorXDr2
set_option linter.unusedSimpArgs false
set_option linter.unusedVariables false


namespace Go.Proofs.YtkjecoanlppeaaaGreatDoor
open Go.RowKit

theorem chk_size {d : VD} (h : chkV d = 0) : d.size ≤ 1000:=by
 unfold chkV at h
 split at h
 ·omega
 ·omega
theorem mem_vg {l : List VD} {x : VD} (h : x ∈ l) : ∃ t,t < l.length ∧ vg l t = x:=by
 obtain ⟨t,ht,rfl⟩:=List.getElem_of_mem h
 exact ⟨t,ht,vg_get ht⟩
theorem zero_size : VD.zero.size = 1:=by simp [VD.zero,VD.size,sizes]
/-- rows of rows behind a step of the call's own: their values lie in the memory of w -/
def LlsX (w wx : World) (R : Value) (rs : List (List VD)) : Prop:=∃ A C,R = .slice A rs.length C ∧ (rs.length ≤ 1048576 ∧ rs.length ≤ C ∧ C ≤ maxLen) ∧ ∀ t,t < rs.length → ∃ b o B D,A = some ⟨b,o,none⟩ ∧ wx.cell? ⟨b,o + t,none⟩ = some (.slice B (lg rs t).length D) ∧ Vls (RV w) w (.slice B (lg rs t).length D) (lg rs t)
theorem LlsX.is {w wx : World} {R : Value} {rs : List (List VD)} (h : LlsX w wx R rs) : ∃ A C,R = .slice A rs.length C:=by
 obtain ⟨A,C,h1,_⟩:=h
 exact ⟨A,C,h1⟩
theorem LlsX.at {w wx : World} {rs : List (List VD)} {A : Option Addr} {n C : Nat} (h : LlsX w wx (.slice A n C) rs) {t : Nat} (ht : t < rs.length) : ∃ b o B D,A = some ⟨b,o,none⟩ ∧ wx.cell? ⟨b,o + t,none⟩ = some (.slice B (lg rs t).length D) ∧ Vls (RV w) w (.slice B (lg rs t).length D) (lg rs t):=by
 obtain ⟨A',C',h1,h2,h3⟩:=h
 injection h1 with e1 e2 e3
 subst e1
 exact h3 t ht
end Go.Proofs.YtkjecoanlppeaaaGreatDoor



namespace Go.Proofs.YtkjecoanlppeaaaGreatDoor
open Go.RowKit

theorem formP_few {p : Int} (h : p ≤ 7) (names : List (List UInt8)) (order rows : List (List VD)) (other : List VD) : formP p names order rows other = formT names order rows other:=by
 unfold formP
 rw [decide_eq_false (show ¬ 8 ≤ p by omega)]
 simp
theorem ok_of_chk {d : VD} (h : chkV d = 0) : okV d = true:=by
 unfold chkV at h
 split at h
 ·omega
 ·split at h
  ·omega
  ·cases hk : okV d with
   | true => rfl
   | false => rw [hk] at h;simp at h
theorem chk_not2 {d : VD} (h : okV d = true) : chkV d ≠ 2:=by
 unfold chkV
 split
 ·decide
 ·split
  ·decide
  ·first | decide | (rw [if_pos h];decide)
theorem oks_all : ∀ l : List VD,(∀ x ∈ l,okV x = true) → oks l = true
 | [],_ => rfl
 | x :: r,h => by
  rw [oks,h x (by simp),oks_all r fun y hy => h y (List.mem_cons_of_mem _ hy)];rfl
theorem whole_ok {names : List (List UInt8)} {row : List VD} (hn : namesB names = true) (hl : row.length = names.length) (h1 : 1 ≤ names.length) (hc : allC row = true) : okV (wholeD names row) = true:=by
 have h:=allC_iff.1 hc
 unfold wholeD
 split
 ·exact ok_of_chk (h 0 (by omega))
 ·rw [okV_eq]
  have h2 : oks row = true:=oks_all row fun x hx => by
   obtain ⟨t,ht,rfl⟩:=mem_vg hx
   exact ok_of_chk (h t ht)
  have hb : ownB (kindS 6) row.length names = true:=by
   unfold ownB
   rw [Bool.and_eq_true]
   refine ⟨bareQ_iff.2 ⟨.inr rfl,.inr (by kernel_rfl),.inr rfl,.inr rfl,.inl (.inr rfl),.inl rfl⟩, ?_⟩
   unfold kindB
   have e : (kindS 6).kind = 6:=rfl
   rw [e,if_neg (by decide),if_neg (by decide),if_neg (by decide),if_neg (by decide),if_pos rfl,hn,decide_eq_true hl.symm];rfl
  show (ownB (kindS 6) row.length names && oks row) = true
  rw [hb,h2];rfl
theorem form_names {names : List (List UInt8)} {order rows : List (List VD)} {other : List VD} (h : formT names order rows other = true) : namesB names = true:=by
 unfold formT at h
 simp only [Bool.and_eq_true] at h
 exact h.2.2.1
theorem endD_err {e : Int} (h : e ≠ 0) (d : VD) : endD (d,e) = (VD.zero,e):=by unfold endD;rw [if_pos (by exact h)]
theorem endD_ok {d : VD} (h : chkV d = 0) : endD (d,0) = (d,0):=by unfold endD;rw [if_neg (by simp),if_neg (by simp [h])]
theorem endD_bad {d : VD} (h : chkV d ≠ 0) : endD (d,0) = (VD.zero,chkV d):=by unfold endD;rw [if_neg (by simp),if_pos (by exact h)]
theorem endD_two (d : VD) : (endD (d,0)).2 = chkV d:=by
 by_cases h : chkV d = 0
 ·rw [endD_ok h,h]
 ·rw [endD_bad h]
/-- what Decide answers to what is in form -/
theorem decAll_form {p : Int} (h1 : 1 ≤ p) (h11 : p ≤ 11) {names : List (List UInt8)} {order rows : List (List VD)} {other : List VD} (hf : formP p names order rows other = true) : decAll p names order rows other = endD (decR p names order (rowsD rows other)):=by
 have hpb : policyB p = true:=by unfold policyB;rw [decide_eq_true h1,decide_eq_true h11];rfl
 unfold decAll
 rw [if_neg (by rw [hpb];decide),if_neg (by rw [hf];decide)]
theorem decAll_bad {p : Int} (h1 : 1 ≤ p) (h11 : p ≤ 11) {names : List (List UInt8)} {order rows : List (List VD)} {other : List VD} (hf : formP p names order rows other = false) : decAll p names order rows other = (VD.zero,2):=by
 have hpb : policyB p = true:=by unfold policyB;rw [decide_eq_true h1,decide_eq_true h11];rfl
 unfold decAll
 rw [if_neg (by rw [hpb];decide),if_pos hf]
/-- what the four answers are to one another -/
structure Singles (r : Int → VD × Int) (n : Nat) : Prop where
 no2 : ∀ p,1 ≤ p → p ≤ 4 → (r p).2 ≠ 2
 uniq : (r 1).2 = 0 → r 2 = r 1 ∧ r 3 = r 1 ∧ r 4 = r 1
 any : (r 2).2 = 0 → r 4 = r 2
 many : n < 2 ∨ (r 1).2 = 14
theorem plD_len (order rows : List (List VD)) : (plD order rows).length = rows.length:=srt_len _ _
theorem singles_plain (names : List (List UInt8)) (order rows : List (List VD)) (other : List VD) :
  (∀ p,1 ≤ p → p ≤ 4 → decAll p names order rows other = (VD.zero,2)) ∨ Singles (fun p => decAll p names order rows other) rows.length:=by
 cases hf : formT names order rows other with
 | false => exact .inl fun p h1 h4 => decAll_bad h1 (by omega) (by rw [formP_few (by omega)];exact hf)
 | true =>
  right
  have hfp : ∀ p : Int,p ≤ 4 → formP p names order rows other = true:=fun p h => by rw [formP_few (by omega)];exact hf
  obtain ⟨hin,_⟩:=form_in (hfp 1 (by decide))
  have hnm:=form_names hf
  have hD : ∀ p : Int,1 ≤ p → p ≤ 4 → decAll p names order rows other = endD (decR p names order (rowsD rows other)):=fun p h1 h4 => decAll_form h1 (by omega) (hfp p h4)
  have hrows : rows.length < 2 ∨ rowsD rows other = rows:=by
   unfold rowsD
   split
   ·left;omega
   ·exact .inr rfl
  obtain ⟨rs,hrs⟩ : ∃ rs,rs = rowsD rows other:=⟨_,rfl⟩
  rw [← hrs] at hin hD hrows
  by_cases h0 : rs.length = 0
  ·have hz : ∀ p : Int,1 ≤ p → p ≤ 4 → decAll p names order rows other = (VD.zero,0):=fun p h1 h4 => by
    rw [hD p h1 h4]
    unfold decR
    rw [if_pos h0]
    have e : noneD p = VD.zero:=by unfold noneD;rw [if_neg (by omega),if_neg (by omega)]
    rw [e]
    exact endD_ok (by kernel_rfl)
   refine ⟨fun p h1 h4 => by show (decAll p names order rows other).2 ≠ 2;rw [hz p h1 h4];decide,fun _ => ?_,fun _ => ?_, ?_⟩
   ·show decAll 2 _ _ _ _ = decAll 1 _ _ _ _ ∧ decAll 3 _ _ _ _ = decAll 1 _ _ _ _ ∧ decAll 4 _ _ _ _ = decAll 1 _ _ _ _
    rw [hz 1 (by decide) (by decide),hz 2 (by decide) (by decide),hz 3 (by decide) (by decide),hz 4 (by decide) (by decide)]
    exact ⟨rfl,rfl,rfl⟩
   ·show decAll 4 _ _ _ _ = decAll 2 _ _ _ _
    rw [hz 2 (by decide) (by decide),hz 4 (by decide) (by decide)]
   ·left
    rcases hrows with h | h
    ·exact h
    ·rw [h] at h0;omega
  ·obtain ⟨l,hl⟩ : ∃ l,l = rs.map (wholeD names):=⟨_,rfl⟩
   obtain ⟨pl,hpl⟩ : ∃ pl,pl = plD order rs:=⟨_,rfl⟩
   have hln : l.length = rs.length:=by rw [hl,List.length_map]
   have hpn : pl.length = rs.length:=by rw [hpl];exact plD_len _ _
   have hpt : ag pl 0 < l.length:=by
    rw [hln,hpl]
    exact srt_lt_n (by rw [srt_len];omega)
   have hok : ∀ t,t < l.length → chkV (vg l t) ≠ 2:=fun t ht => by
    rw [hl,vg_map _ _ (by omega)]
    exact chk_not2 (whole_ok hnm (hin.rl t (by omega)) hin.n1 (hin.rc t (by omega)))
   have hR : ∀ p : Int,1 ≤ p → p ≤ 4 → decAll p names order rows other = endD (decD p l pl):=fun p h1 h4 => by
    rw [hD p h1 h4]
    unfold decR
    rw [if_neg h0,← hl,← hpl]
   have e1 : decAll 1 names order rows other = endD (if 1 < l.length then (VD.zero,14) else (vg l 0,0)):=by rw [hR 1 (by decide) (by decide)];unfold decD;rw [if_pos rfl]
   have e2 : decAll 2 names order rows other = endD (if allSame l = true then (vg l 0,0) else (VD.zero,15)):=by rw [hR 2 (by decide) (by decide)];unfold decD;rw [if_neg (by decide),if_pos rfl]
   have e3 : decAll 3 names order rows other = endD (vg l (ag pl 0),0):=by rw [hR 3 (by decide) (by decide)];unfold decD;rw [if_neg (by decide),if_neg (by decide),if_pos rfl]
   have e4 : decAll 4 names order rows other = endD (vg l 0,0):=by rw [hR 4 (by decide) (by decide)];unfold decD;rw [if_neg (by decide),if_neg (by decide),if_neg (by decide),if_pos rfl]
   have h00:=hok 0 (by omega)
   refine ⟨fun p h1 h4 => ?_,fun h => ?_,fun h => ?_, ?_⟩
   ·show (decAll p names order rows other).2 ≠ 2
    have hp : p = 1 ∨ p = 2 ∨ p = 3 ∨ p = 4:=by omega
    rcases hp with rfl | rfl | rfl | rfl
    ·rw [e1]
     split
     ·rw [endD_err (by decide)];decide
     ·rw [endD_two];exact h00
    ·rw [e2]
     split
     ·rw [endD_two];exact h00
     ·rw [endD_err (by decide)];decide
    ·rw [e3,endD_two];exact hok _ hpt
    ·rw [e4,endD_two];exact h00
   ·have h' : (decAll 1 names order rows other).2 = 0:=h
    have hl1 : ¬ 1 < l.length:=fun hlt => by
     rw [e1,if_pos hlt,endD_err (by decide)] at h'
     exact absurd h' (by decide)
    have hall : allSame l = true:=allSame_iff.2 fun t ht => by
     obtain rfl : t = 0:=by omega
     exact sameB_self _
    have hz : ag pl 0 = 0:=by omega
    rw [if_neg hl1] at e1
    rw [if_pos hall] at e2
    rw [hz] at e3
    show decAll 2 _ _ _ _ = decAll 1 _ _ _ _ ∧ decAll 3 _ _ _ _ = decAll 1 _ _ _ _ ∧ decAll 4 _ _ _ _ = decAll 1 _ _ _ _
    rw [e1,e2,e3,e4]
    exact ⟨rfl,rfl,rfl⟩
   ·have h' : (decAll 2 names order rows other).2 = 0:=h
    show decAll 4 _ _ _ _ = decAll 2 _ _ _ _
    by_cases hall : allSame l = true
    ·rw [e2,e4,if_pos hall]
    ·rw [e2,if_neg hall,endD_err (by decide)] at h'
     exact absurd h' (by decide)
   ·rcases hrows with hr | hr
    ·exact .inl hr
    ·by_cases h2 : rows.length < 2
     ·exact .inl h2
     ·right
      show (decAll 1 names order rows other).2 = 14
      rw [e1,if_pos (by rw [hln,hr];omega),endD_err (by decide)]
end Go.Proofs.YtkjecoanlppeaaaGreatDoor



namespace Go.Proofs.YtkjecoanlppeaaaGreatDoor
open Go.RowKit
open Go.ChangeShapes Go.WideShapes Go.ChangeAt
open Go.ChangeMaps (open_string shut_string)

theorem lls_of {P : Nat → List VD → Prop} : ∀ n,(∀ i,i < n → ∃ l,P i l) → ∃ ls : List (List VD),ls.length = n ∧ ∀ i,i < n → P i (lg ls i)
 | 0,_ => ⟨[],rfl,fun i hi => absurd hi (Nat.not_lt_zero _)⟩
 | n + 1,h => by
  obtain ⟨l,h1,h2⟩:=lls_of (P:=P) n (fun i hi => h i (by omega))
  obtain ⟨d,h4⟩:=h n (by omega)
  refine ⟨l ++ [d],by rw [List.length_append,h1];rfl,fun i hi => ?_⟩
  unfold lg
  rcases Nat.lt_or_ge i n with h' | h'
  ·rw [List.getD_eq_getElem?_getD,List.getElem?_append_left (by omega)]
   have:=h2 i h'
   unfold lg at this
   rwa [List.getD_eq_getElem?_getD] at this
  ·obtain rfl : i = n:=by omega
   rw [List.getD_eq_getElem?_getD,List.getElem?_append_right (by omega),h1,Nat.sub_self]
   exact h4
section
variable {H : Type} {enc : TypeId × Value → H} {W : World} {b0 : Nat} {sp : Nat → Bool} {held : Bool}
set_option maxRecDepth 100000 in
set_option maxHeartbeats 1000000 in
theorem open_vls {fuel : Nat} {c : Value} {x : DataW H × List MemPlace} (h : DataW.trod enc Tryz.prog W b0 sp held fuel 24 [c] = some x) (hN2 : Rows.uptoBulk x.1 ≤ 1048576) :
  ∃ A C l,c = .slice A l.length C ∧ Vls (RV W) W c l ∧ sizes l ≤ Rows.uptoBulk x.1:=by
 have n6 : Tryz.prog.cellsOf 34 = 10:=by kernel_rfl
 rcases Deep.open_slice Tryz.underlying24 h with ⟨hc,rfl⟩ | ⟨a,len,cap,m,n',D,Pl,hc,_,hl,hm,hmm,rfl,hxs⟩
 ·injection hc with hc
  subst hc
  exact ⟨none,0,[],rfl,⟨none,0,rfl,⟨by simp,by simp,by unfold maxLen;omega⟩,fun r hr => absurd hr (by simp)⟩,by simp [sizes]⟩
 ·injection hc with hc
  subst hc
  rw [n6] at hxs
  have hle : len ≤ m:=by rw [hmm];split <;> omega
  simp only [Rows.uptoBulk] at hN2 ⊢
  rw [bulk_range] at hN2 ⊢
  have hlen2 : len ≤ 1048576:=by
   have:=sum_pos (fun i => Rows.uptoBulk (D i)) (fun i => bulk_pos _) len
   omega
  obtain ⟨b,o,spot⟩:=a
  obtain ⟨l,h1,h2,h3⟩:=vds_of (P:=fun i vd => spot = none ∧ ∃ A1 C1 A2 C2,At W b (o + i * 10) (vd.s.cs ++ [.slice A1 vd.list.length C1,.slice A2 vd.names.length C2]) ∧ RV W (.slice A1 vd.list.length C1) (.slice A2 vd.names.length C2) vd) (f:=fun i => Rows.uptoBulk (D i)) len (fun i hi => by
   obtain ⟨cs',q1,q2⟩:=hxs i (by omega)
   have hbi:=sum_mem (fun i => Rows.uptoBulk (D i)) len i hi
   obtain ⟨vd,A1,C1,A3,C3,e,hrv,hs⟩:=open_cells (Rows.uptoBulk (D i)) n' cs' (D i,Pl i) (Nat.le_refl _) (by omega) q2
   obtain ⟨_,hl10,hat⟩:=World.cells?_some q1
   have hspot : spot = none:=by
    obtain ⟨cs0,p1,_⟩:=hxs 0 (by omega)
    obtain ⟨_,hl0,hat0⟩:=World.cells?_some p1
    have h0:=hat0 0 (by omega)
    rw [List.getElem?_eq_getElem (by omega)] at h0
    simpa [Addr.add] using World.cell?_spot h0
   subst hspot
   refine ⟨vd,⟨rfl,A1,C1,A3,C3,fun j hj => ?_,hrv⟩,hs⟩
   rw [← e] at hj ⊢
   rw [← hat j (by omega)]
   congr 1
   rw [show ((⟨b,o,none⟩ : Addr).add (i * 10)) = ⟨b,o + i * 10,none⟩ from add_plain ..,show ((⟨b,o + i * 10,none⟩ : Addr).add j) = ⟨b,o + i * 10 + j,none⟩ from add_plain ..])
  refine ⟨some ⟨b,o,spot⟩,cap,l,by rw [h1],⟨some ⟨b,o,spot⟩,cap,by rw [h1],⟨by omega,by omega,by unfold maxLen at hm ⊢;omega⟩,fun r hr => ?_⟩,by omega⟩
  obtain ⟨q0,A1,C1,A3,C3,q1,q2⟩:=h2 r (by omega)
  subst q0
  exact ⟨b,o,A1,C1,A3,C3,rfl,q1,q2⟩
set_option maxRecDepth 100000 in
theorem open_lls {fuel : Nat} {c : Value} {x : DataW H × List MemPlace} (h : DataW.trod enc Tryz.prog W b0 sp held fuel 23 [c] = some x) (hb : Rows.uptoBulk x.1 ≤ 1048576) :
  ∃ A C ls,c = .slice A ls.length C ∧ Lls W c ls ∧ ∀ t,t < ls.length → SmallL (lg ls t):=by
 rcases Deep.open_slice1 Tryz.underlying23 (by kernel_rfl) h with ⟨hc,rfl⟩ | ⟨a,len,cap,m,n,V,D,Pl,hc,_,hl,hm,hmm,rfl,hx⟩
 ·injection hc with hc
  subst hc
  exact ⟨none,0,[],rfl,⟨none,0,rfl,⟨by simp,by simp,by unfold maxLen;omega⟩,fun r hr => absurd hr (by simp)⟩,fun t ht => absurd ht (by simp)⟩
 ·injection hc with hc
  subst hc
  have hle : len ≤ m:=by rw [hmm];split <;> omega
  simp only [Rows.uptoBulk] at hb
  rw [bulk_range] at hb
  have hlen : len ≤ 1048576:=by
   have:=sum_pos (fun i => Rows.uptoBulk (D i)) (fun i => bulk_pos _) len
   omega
  obtain ⟨b,o,spot⟩:=a
  obtain ⟨ls,h1,h2⟩:=lls_of (P:=fun i l => spot = none ∧ (∃ B E,W.cell? ⟨b,o + i,none⟩ = some (.slice B l.length E) ∧ Vls (RV W) W (.slice B l.length E) l) ∧ SmallL l) len (fun i hi => by
   obtain ⟨h3,h4⟩:=hx i (by omega)
   have hbi:=sum_mem (fun i => Rows.uptoBulk (D i)) len i hi
   obtain ⟨B,E,l,e,hv,hs⟩:=open_vls h4 (by dsimp only;omega)
   have hspot : spot = none:=by simpa [Addr.add] using World.cell?_spot (hx 0 (by omega)).1
   subst hspot
   dsimp only at hs
   rw [e] at hv
   refine ⟨l,rfl,⟨B,E, ?_,hv⟩,smallL_of (by omega)⟩
   rw [← add_plain,h3,e])
  refine ⟨some ⟨b,o,spot⟩,cap,ls,by rw [h1],⟨some ⟨b,o,spot⟩,cap,by rw [h1],⟨by omega,by omega,by unfold maxLen at hm ⊢;omega⟩,fun r hr => ?_⟩,fun t ht => (h2 t (by omega)).2.2⟩
  obtain ⟨q0,⟨B,E,q1,q2⟩,_⟩:=h2 r (by omega)
  subst q0
  exact ⟨b,o,B,E,rfl,q1,q2⟩
end
set_option maxRecDepth 100000 in
set_option maxHeartbeats 1000000 in
theorem ldecide_any (p : Int) (names : List (List UInt8)) (order rows : List (List VD)) (other : List VD) (N O R V : Value) (w : World) (hT : Tabs w) (hn : Nms w N names) (ho : Lls w O order) (hr : Lls w R rows) (hv : Vls (RV w) w V other) :
  Calls Tryz.prog 11 #[.int .i64 p,.agg #[N,O,R,V]] w (RetX 0 w.heap.size (decAll p names order rows other) w):=by
 have hdc:=fun (W : World) (hW : Below w.heap.size w W) => hdecide_any p names order rows other N O R V W (tabs_below hT hW) (hn.below hW) (ho.below hW) (hr.below hW) (hv.kept hW)
 obtain ⟨Z,hZ⟩ : ∃ Z,Z = decAll p names order rows other:=⟨_,rfl⟩
 rw [← hZ]
 simp only [← hZ] at hdc
 unfold RetX at hdc
 obtain ⟨d,er⟩:=Z
 dsimp only at hdc
 have HDC:=Lib.hid hdc
 obtain ⟨NA,NC,rfl,_⟩:=hn.is
 obtain ⟨OA,OC,rfl,_⟩:=ho.is
 obtain ⟨RA,RC,rfl,_⟩:=hr.is
 obtain ⟨VA0,VC0,rfl,_⟩:=hv.is
 clear hdc hT hn ho hr hv hZ
 go_enter Tryz.func11,Tryz.ntmps11
 go_wp2_with (go_at_call 22;(with_reducible refine (HDC.out _ (by (repeat' first|(with_reducible first|exact blR _ _|assumption|refine blD ?_|refine blN ?_ _)|((with_reducible first|refine blA ?_ ?_ _|refine blS ?_ ?_ _|refine blT (by assumption) ?_ ?_);focus (go_size;done))))).mono ?_);rintro _ w3 ⟨VA,VC,VA2,VC2,rfl,hvb,hb3⟩;have HVB:=Lib.hid hvb;clear hvb;have hb3s:=hb3.size;(try simp only [World.size_alloc] at hb3s);(try have : w.heap.size < w3.heap.size:=by omega);(try have : w.heap.size + 1 < w3.heap.size:=by omega);(try have : w.heap.size + 1 + 1 < w3.heap.size:=by omega);(try have : w.heap.size + 1 + 1 + 1 < w3.heap.size:=by omega);have k1 : Bk w3 (w.heap.size + 1) 34 zc10:=(by unfold zc10;(repeat (first|(with_reducible assumption)|((with_reducible refine bkW ?_);(first|rfl|(simp only [wsA,wsS,wsD,wsN];done)))|(with_reducible first|refine bkA ?_ _|refine bkD ?_|refine bkN ?_ _)|((with_reducible refine bkF ?_ ?_ _);focus (simp only [];omega))|((with_reducible refine bkB (by assumption) ?_ ?_);focus (go_size;done)))));have mb : Below w.heap.size w w3:=(by (repeat' first|(with_reducible first|exact blR _ _|assumption|refine blD ?_|refine blN ?_ _)|((with_reducible first|refine blA ?_ ?_ _|refine blS ?_ ?_ _|refine blT (by assumption) ?_ ?_);focus (go_size;done))));obtain ⟨⟨z0,z1,z2,z3,z4,z5,z6,z7,z8,z9⟩,zf⟩:=k1.zcd;clear k1 hb3)
 refine bodyPost_ret (by simp [results,Tryz.results11,go_sem, *];try rfl) rfl ?_
 refine ⟨VA,VC,VA2,VC2,rfl,fun W' hW' => HVB.out _ (fun b hb => (hW' b (by simp only [World.size_setCell];simp only [World.size_alloc] at hb;omega)).trans ?_),by (repeat' first|(with_reducible first|exact blR _ _|assumption|refine blD ?_|refine blN ?_ _)|((with_reducible first|refine blA ?_ ?_ _|refine blS ?_ ?_ _|refine blT (by assumption) ?_ ?_);focus (go_size;done)))⟩
 simp only [World.size_alloc] at hb
 repeat rw [Below.heap_setCell _ _ _ _ (by show b ≠ w.heap.size + 1;omega)]
end Go.Proofs.YtkjecoanlppeaaaGreatDoor



namespace Go.Proofs.YtkjecoanlppeaaaGreatDoor
open Go.RowKit

theorem endD_size (r : VD × Int) : (endD r).1.size ≤ 1000:=by
 unfold endD
 split
 ·show VD.zero.size ≤ _;rw [zero_size];decide
 ·split
  ·show VD.zero.size ≤ _;rw [zero_size];decide
  ·rename_i h
   exact chk_size (by simpa using h)
theorem decAll_size (p : Int) (names : List (List UInt8)) (order rows : List (List VD)) (other : List VD) : (decAll p names order rows other).1.size ≤ 1000:=by
 unfold decAll
 split
 ·show VD.zero.size ≤ _;rw [zero_size];decide
 ·split
  ·show VD.zero.size ≤ _;rw [zero_size];decide
  ·exact endD_size _
/-- the law's same -/
theorem same_two (x y : VD) (A : Option Addr) (C : Nat) (A2 : Option Addr) (C2 : Nat) (B : Option Addr) (D : Nat) (B2 : Option Addr) (D2 : Nat) (W : World) (hx : VA W x A C A2 C2) (hy : VA W y B D B2 D2) (hs : x.size ≤ 1000) (hs2 : y.size ≤ 1000) :
  Calls Tryz.prog 12 #[vargs x A C A2 C2,vargs y B D B2 D2] W fun e w' => e = .returned (.bool (sameB x y)) ∧ Below W.heap.size W w':=by
 have h:=lsame_any x y A C A2 C2 B D B2 D2 W hx hy (by omega) (by omega)
 rw [decide_eq_true hs,decide_eq_true hs2,Bool.true_and,Bool.true_and] at h
 exact h
theorem same_self (x : VD) (A : Option Addr) (C : Nat) (A2 : Option Addr) (C2 : Nat) (B : Option Addr) (D : Nat) (B2 : Option Addr) (D2 : Nat) (W : World) (hx : VA W x A C A2 C2) (hy : VA W x B D B2 D2) (hs : x.size ≤ 1000) :
  Calls Tryz.prog 12 #[vargs x A C A2 C2,vargs x B D B2 D2] W fun e w' => e = .returned (.bool true) ∧ Below W.heap.size W w':=by
 have h:=same_two x x A C A2 C2 B D B2 D2 W hx hy hs hs
 rw [sameB_self] at h
 exact h
end Go.Proofs.YtkjecoanlppeaaaGreatDoor



namespace Go.Proofs.YtkjecoanlppeaaaGreatDoor
open Go.RowKit

/-- what the law's Decide answers in a world: a value and an error -/
def LDec (p : Int) (d : VD) (e : Int) (T : Value) (w : World) : Prop:=∀ W : World,Below w.heap.size w W → Calls Tryz.prog 11 #[.int .i64 p,T] W fun x w' => ∃ A C A2 C2,x = .returned (.tuple #[vargs d A C A2 C2,.int .i64 e]) ∧ VB 0 W.heap.size w'.heap.size w' d A C A2 C2 ∧ Below W.heap.size W w'
theorem ldec_of (p : Int) {names : List (List UInt8)} {order rows : List (List VD)} {other : List VD} {N O R V : Value} {w : World} (hT : Tabs w) (hn : Nms w N names) (ho : Lls w O order) (hr : Lls w R rows) (hv : Vls (RV w) w V other) {d : VD} {e : Int} (h : decAll p names order rows other = (d,e)) : LDec p d e (.agg #[N,O,R,V]) w:=fun W hW => by
 have k:=ldecide_any p names order rows other N O R V W (tabs_below hT hW) (hn.below hW) (ho.below hW) (hr.below hW) (hv.kept hW)
 rw [h] at k
 exact k
set_option maxRecDepth 100000 in
set_option maxHeartbeats 2000000 in
theorem singles_form (N O R V : Value) (n nn on vn NC OC RC VC0 : Nat) (NA OA RA VA0 : Option Addr) (hN : N = .slice NA nn NC) (hO : O = .slice OA on OC) (hR : R = .slice RA n RC) (hV : V = .slice VA0 vn VC0) (w : World) (HK : Hid (∀ W : World,Below w.heap.size w W → Calls Tryz.prog 9 #[] W fun e w' => e = .returned (.bool true) ∧ Below W.heap.size W w'))
  (h1 : LDec 1 VD.zero 2 (.agg #[N,O,R,V]) w) (h2 : LDec 2 VD.zero 2 (.agg #[N,O,R,V]) w) (h3 : LDec 3 VD.zero 2 (.agg #[N,O,R,V]) w) (h4 : LDec 4 VD.zero 2 (.agg #[N,O,R,V]) w) :
  Calls Tryz.prog 4 #[.agg #[N,O,R,V]] w fun e w' => e = .returned (.bool true) ∧ Below w.heap.size w w':=by
 subst hN hO hR hV
 unfold LDec at h1 h2 h3 h4
 have H1:=Lib.hid h1
 have H2:=Lib.hid h2
 have H3:=Lib.hid h3
 have H4:=Lib.hid h4
 clear h1 h2 h3 h4
 go_enter Tryz.func4,Tryz.ntmps4
 go_wp2_with (first | ((go_at_call 9;with_reducible refine (HK.out _ (by (repeat' first|(with_reducible first|exact blR _ _|assumption|refine blD ?_|refine blN ?_ _)|((with_reducible first|refine blA ?_ ?_ _|refine blS ?_ ?_ _|refine blT (by assumption) ?_ ?_);focus (go_size;done))))).mono ?_);rintro _ w1 ⟨rfl,hb1⟩;have hb1s:=hb1.size;(try simp only [wsA,wsS,wsD,wsN] at hb1s);obtain ⟨hb1c,hb1f⟩:=bcell hb1;(try have : w.heap.size < w1.heap.size:=by omega);(try have : w.heap.size + 1 < w1.heap.size:=by omega);(try have : w.heap.size + 1 + 1 < w1.heap.size:=by omega);(try have : w.heap.size + 1 + 1 + 1 < w1.heap.size:=by omega)) | (go_at_call 11;(with_reducible refine (H1.out _ (by (repeat' first|(with_reducible first|exact blR _ _|assumption|refine blD ?_|refine blN ?_ _)|((with_reducible first|refine blA ?_ ?_ _|refine blS ?_ ?_ _|refine blT (by assumption) ?_ ?_);focus (go_size;done))))).mono ?_);rintro _ w2 ⟨A1,C1,B1,D1,rfl,hv1,hbw2⟩;have HV1:=Lib.hid hv1.va;clear hv1;have hbw2s:=hbw2.size;(try simp only [World.size_alloc] at hbw2s);(try have : w.heap.size < w2.heap.size:=by omega);(try have : w.heap.size + 1 < w2.heap.size:=by omega);(try have : w.heap.size + 1 + 1 < w2.heap.size:=by omega);(try have : w.heap.size + 1 + 1 + 1 < w2.heap.size:=by omega);(try have : w1.heap.size < w2.heap.size:=by omega);(try have : w1.heap.size + 1 < w2.heap.size:=by omega);(try have : w1.heap.size + 1 + 1 < w2.heap.size:=by omega);(try have : w1.heap.size + 1 + 1 + 1 < w2.heap.size:=by omega);obtain ⟨hbw2c,hbw2f⟩:=bcell hbw2) | (go_at_call 11;(with_reducible refine (H2.out _ (by (repeat' first|(with_reducible first|exact blR _ _|assumption|refine blD ?_|refine blN ?_ _)|((with_reducible first|refine blA ?_ ?_ _|refine blS ?_ ?_ _|refine blT (by assumption) ?_ ?_);focus (go_size;done))))).mono ?_);rintro _ w3 ⟨A2,C2,B2,D2,rfl,hv2,hbw3⟩;have HV2:=Lib.hid hv2.va;clear hv2;have hbw3s:=hbw3.size;(try simp only [World.size_alloc] at hbw3s);(try have : w.heap.size < w3.heap.size:=by omega);(try have : w.heap.size + 1 < w3.heap.size:=by omega);(try have : w.heap.size + 1 + 1 < w3.heap.size:=by omega);(try have : w.heap.size + 1 + 1 + 1 < w3.heap.size:=by omega);(try have : w2.heap.size < w3.heap.size:=by omega);(try have : w2.heap.size + 1 < w3.heap.size:=by omega);(try have : w2.heap.size + 1 + 1 < w3.heap.size:=by omega);(try have : w2.heap.size + 1 + 1 + 1 < w3.heap.size:=by omega);obtain ⟨hbw3c,hbw3f⟩:=bcell hbw3) | ((go_at_call 11;(with_reducible refine (H3.out _ (by (repeat' first|(with_reducible first|exact blR _ _|assumption|refine blD ?_|refine blN ?_ _)|((with_reducible first|refine blA ?_ ?_ _|refine blS ?_ ?_ _|refine blT (by assumption) ?_ ?_);focus (go_size;done))))).mono ?_);rintro _ w4 ⟨A3,C3,B3,D3,rfl,hv3,hbw4⟩;have HV3:=Lib.hid hv3.va;clear hv3;have hbw4s:=hbw4.size;(try simp only [World.size_alloc] at hbw4s);(try have : w.heap.size < w4.heap.size:=by omega);(try have : w.heap.size + 1 < w4.heap.size:=by omega);(try have : w.heap.size + 1 + 1 < w4.heap.size:=by omega);(try have : w.heap.size + 1 + 1 + 1 < w4.heap.size:=by omega);(try have : w3.heap.size < w4.heap.size:=by omega);(try have : w3.heap.size + 1 < w4.heap.size:=by omega);(try have : w3.heap.size + 1 + 1 < w4.heap.size:=by omega);(try have : w3.heap.size + 1 + 1 + 1 < w4.heap.size:=by omega);obtain ⟨hbw4c,hbw4f⟩:=bcell hbw4);(try have : w2.heap.size < w4.heap.size:=by omega);(try have : w2.heap.size + 1 < w4.heap.size:=by omega);(try have : w2.heap.size + 1 + 1 < w4.heap.size:=by omega);(try have : w2.heap.size + 1 + 1 + 1 < w4.heap.size:=by omega)) | ((go_at_call 11;(with_reducible refine (H4.out _ (by (repeat' first|(with_reducible first|exact blR _ _|assumption|refine blD ?_|refine blN ?_ _)|((with_reducible first|refine blA ?_ ?_ _|refine blS ?_ ?_ _|refine blT (by assumption) ?_ ?_);focus (go_size;done))))).mono ?_);rintro _ w5 ⟨A4,C4,B4,D4,rfl,hv4,hbw5⟩;have HV4:=Lib.hid hv4.va;clear hv4;have hbw5s:=hbw5.size;(try simp only [World.size_alloc] at hbw5s);(try have : w.heap.size < w5.heap.size:=by omega);(try have : w.heap.size + 1 < w5.heap.size:=by omega);(try have : w.heap.size + 1 + 1 < w5.heap.size:=by omega);(try have : w.heap.size + 1 + 1 + 1 < w5.heap.size:=by omega);(try have : w4.heap.size < w5.heap.size:=by omega);(try have : w4.heap.size + 1 < w5.heap.size:=by omega);(try have : w4.heap.size + 1 + 1 < w5.heap.size:=by omega);(try have : w4.heap.size + 1 + 1 + 1 < w5.heap.size:=by omega);obtain ⟨hbw5c,hbw5f⟩:=bcell hbw5);(try have : w2.heap.size < w5.heap.size:=by omega);(try have : w2.heap.size + 1 < w5.heap.size:=by omega);(try have : w2.heap.size + 1 + 1 < w5.heap.size:=by omega);(try have : w2.heap.size + 1 + 1 + 1 < w5.heap.size:=by omega);(try have : w3.heap.size < w5.heap.size:=by omega);(try have : w3.heap.size + 1 < w5.heap.size:=by omega);(try have : w3.heap.size + 1 + 1 < w5.heap.size:=by omega);(try have : w3.heap.size + 1 + 1 + 1 < w5.heap.size:=by omega)))
 go_ret
 exact ⟨rfl,by (repeat' first|(with_reducible first|exact blR _ _|assumption|refine blD ?_|refine blN ?_ _)|((with_reducible first|refine blA ?_ ?_ _|refine blS ?_ ?_ _|refine blT (by assumption) ?_ ?_);focus (go_size;done)))⟩
set_option maxRecDepth 100000 in
set_option maxHeartbeats 4000000 in
theorem singles_zero (N O R V : Value) (n nn on vn NC OC RC VC0 : Nat) (NA OA RA VA0 : Option Addr) (hN : N = .slice NA nn NC) (hO : O = .slice OA on OC) (hR : R = .slice RA n RC) (hV : V = .slice VA0 vn VC0) (w : World) (HK : Hid (∀ W : World,Below w.heap.size w W → Calls Tryz.prog 9 #[] W fun e w' => e = .returned (.bool true) ∧ Below W.heap.size W w')) (d : VD) (hd : d.size ≤ 1000) (hn : n < 2)
  (h1 : LDec 1 d 0 (.agg #[N,O,R,V]) w) (h2 : LDec 2 d 0 (.agg #[N,O,R,V]) w) (h3 : LDec 3 d 0 (.agg #[N,O,R,V]) w) (h4 : LDec 4 d 0 (.agg #[N,O,R,V]) w) :
  Calls Tryz.prog 4 #[.agg #[N,O,R,V]] w fun e w' => e = .returned (.bool true) ∧ Below w.heap.size w w':=by
 subst hN hO hR hV
 unfold LDec at h1 h2 h3 h4
 have H1:=Lib.hid h1
 have H2:=Lib.hid h2
 have H3:=Lib.hid h3
 have H4:=Lib.hid h4
 clear h1 h2 h3 h4
 have HSM:=Lib.hid (fun (A : Option Addr) (C : Nat) (A2 : Option Addr) (C2 : Nat) (B : Option Addr) (D : Nat) (B2 : Option Addr) (D2 : Nat) (W : World) (hx : VA W d A C A2 C2) (hy : VA W d B D B2 D2) => same_self d A C A2 C2 B D B2 D2 W hx hy hd)
 have hn2 : (n : Int) < 2:=by omega
 clear hd hn
 go_enter Tryz.func4,Tryz.ntmps4
 go_wp2_with (first | ((go_at_call 9;with_reducible refine (HK.out _ (by (repeat' first|(with_reducible first|exact blR _ _|assumption|refine blD ?_|refine blN ?_ _)|((with_reducible first|refine blA ?_ ?_ _|refine blS ?_ ?_ _|refine blT (by assumption) ?_ ?_);focus (go_size;done))))).mono ?_);rintro _ w1 ⟨rfl,hb1⟩;have hb1s:=hb1.size;(try simp only [wsA,wsS,wsD,wsN] at hb1s);obtain ⟨hb1c,hb1f⟩:=bcell hb1;(try have : w.heap.size < w1.heap.size:=by omega);(try have : w.heap.size + 1 < w1.heap.size:=by omega);(try have : w.heap.size + 1 + 1 < w1.heap.size:=by omega);(try have : w.heap.size + 1 + 1 + 1 < w1.heap.size:=by omega)) | (go_at_call 11;(with_reducible refine (H1.out _ (by (repeat' first|(with_reducible first|exact blR _ _|assumption|refine blD ?_|refine blN ?_ _)|((with_reducible first|refine blA ?_ ?_ _|refine blS ?_ ?_ _|refine blT (by assumption) ?_ ?_);focus (go_size;done))))).mono ?_);rintro _ w2 ⟨A1,C1,B1,D1,rfl,hv1,hbw2⟩;have HV1:=Lib.hid hv1.va;clear hv1;have hbw2s:=hbw2.size;(try simp only [World.size_alloc] at hbw2s);(try have : w.heap.size < w2.heap.size:=by omega);(try have : w.heap.size + 1 < w2.heap.size:=by omega);(try have : w.heap.size + 1 + 1 < w2.heap.size:=by omega);(try have : w.heap.size + 1 + 1 + 1 < w2.heap.size:=by omega);(try have : w1.heap.size < w2.heap.size:=by omega);(try have : w1.heap.size + 1 < w2.heap.size:=by omega);(try have : w1.heap.size + 1 + 1 < w2.heap.size:=by omega);(try have : w1.heap.size + 1 + 1 + 1 < w2.heap.size:=by omega);obtain ⟨hbw2c,hbw2f⟩:=bcell hbw2) | (go_at_call 11;(with_reducible refine (H2.out _ (by (repeat' first|(with_reducible first|exact blR _ _|assumption|refine blD ?_|refine blN ?_ _)|((with_reducible first|refine blA ?_ ?_ _|refine blS ?_ ?_ _|refine blT (by assumption) ?_ ?_);focus (go_size;done))))).mono ?_);rintro _ w3 ⟨A2,C2,B2,D2,rfl,hv2,hbw3⟩;have HV2:=Lib.hid hv2.va;clear hv2;have hbw3s:=hbw3.size;(try simp only [World.size_alloc] at hbw3s);(try have : w.heap.size < w3.heap.size:=by omega);(try have : w.heap.size + 1 < w3.heap.size:=by omega);(try have : w.heap.size + 1 + 1 < w3.heap.size:=by omega);(try have : w.heap.size + 1 + 1 + 1 < w3.heap.size:=by omega);(try have : w2.heap.size < w3.heap.size:=by omega);(try have : w2.heap.size + 1 < w3.heap.size:=by omega);(try have : w2.heap.size + 1 + 1 < w3.heap.size:=by omega);(try have : w2.heap.size + 1 + 1 + 1 < w3.heap.size:=by omega);obtain ⟨hbw3c,hbw3f⟩:=bcell hbw3) | ((go_at_call 11;(with_reducible refine (H3.out _ (by (repeat' first|(with_reducible first|exact blR _ _|assumption|refine blD ?_|refine blN ?_ _)|((with_reducible first|refine blA ?_ ?_ _|refine blS ?_ ?_ _|refine blT (by assumption) ?_ ?_);focus (go_size;done))))).mono ?_);rintro _ w4 ⟨A3,C3,B3,D3,rfl,hv3,hbw4⟩;have HV3:=Lib.hid hv3.va;clear hv3;have hbw4s:=hbw4.size;(try simp only [World.size_alloc] at hbw4s);(try have : w.heap.size < w4.heap.size:=by omega);(try have : w.heap.size + 1 < w4.heap.size:=by omega);(try have : w.heap.size + 1 + 1 < w4.heap.size:=by omega);(try have : w.heap.size + 1 + 1 + 1 < w4.heap.size:=by omega);(try have : w3.heap.size < w4.heap.size:=by omega);(try have : w3.heap.size + 1 < w4.heap.size:=by omega);(try have : w3.heap.size + 1 + 1 < w4.heap.size:=by omega);(try have : w3.heap.size + 1 + 1 + 1 < w4.heap.size:=by omega);obtain ⟨hbw4c,hbw4f⟩:=bcell hbw4);(try have : w2.heap.size < w4.heap.size:=by omega);(try have : w2.heap.size + 1 < w4.heap.size:=by omega);(try have : w2.heap.size + 1 + 1 < w4.heap.size:=by omega);(try have : w2.heap.size + 1 + 1 + 1 < w4.heap.size:=by omega)) | ((go_at_call 11;(with_reducible refine (H4.out _ (by (repeat' first|(with_reducible first|exact blR _ _|assumption|refine blD ?_|refine blN ?_ _)|((with_reducible first|refine blA ?_ ?_ _|refine blS ?_ ?_ _|refine blT (by assumption) ?_ ?_);focus (go_size;done))))).mono ?_);rintro _ w5 ⟨A4,C4,B4,D4,rfl,hv4,hbw5⟩;have HV4:=Lib.hid hv4.va;clear hv4;have hbw5s:=hbw5.size;(try simp only [World.size_alloc] at hbw5s);(try have : w.heap.size < w5.heap.size:=by omega);(try have : w.heap.size + 1 < w5.heap.size:=by omega);(try have : w.heap.size + 1 + 1 < w5.heap.size:=by omega);(try have : w.heap.size + 1 + 1 + 1 < w5.heap.size:=by omega);(try have : w4.heap.size < w5.heap.size:=by omega);(try have : w4.heap.size + 1 < w5.heap.size:=by omega);(try have : w4.heap.size + 1 + 1 < w5.heap.size:=by omega);(try have : w4.heap.size + 1 + 1 + 1 < w5.heap.size:=by omega);obtain ⟨hbw5c,hbw5f⟩:=bcell hbw5);(try have : w2.heap.size < w5.heap.size:=by omega);(try have : w2.heap.size + 1 < w5.heap.size:=by omega);(try have : w2.heap.size + 1 + 1 < w5.heap.size:=by omega);(try have : w2.heap.size + 1 + 1 + 1 < w5.heap.size:=by omega);(try have : w3.heap.size < w5.heap.size:=by omega);(try have : w3.heap.size + 1 < w5.heap.size:=by omega);(try have : w3.heap.size + 1 + 1 < w5.heap.size:=by omega);(try have : w3.heap.size + 1 + 1 + 1 < w5.heap.size:=by omega)) | (go_at_call 12;(with_reducible refine (HSM.out A1 C1 B1 D1 A2 C2 B2 D2 _ (va_below HV1.out (by (repeat' first|(with_reducible first|exact blR _ _|assumption|refine blD ?_|refine blN ?_ _)|((with_reducible first|refine blA ?_ ?_ _|refine blS ?_ ?_ _|refine blT (by assumption) ?_ ?_);focus (go_size;done))))) (va_below HV2.out (by (repeat' first|(with_reducible first|exact blR _ _|assumption|refine blD ?_|refine blN ?_ _)|((with_reducible first|refine blA ?_ ?_ _|refine blS ?_ ?_ _|refine blT (by assumption) ?_ ?_);focus (go_size;done)))))).mono ?_);rintro _ w6 ⟨rfl,hbw6⟩;have hbw6s:=hbw6.size;(try simp only [World.size_alloc] at hbw6s);(try have : w.heap.size < w6.heap.size:=by omega);(try have : w.heap.size + 1 < w6.heap.size:=by omega);(try have : w.heap.size + 1 + 1 < w6.heap.size:=by omega);(try have : w.heap.size + 1 + 1 + 1 < w6.heap.size:=by omega);(try have : w2.heap.size < w6.heap.size:=by omega);(try have : w2.heap.size + 1 < w6.heap.size:=by omega);(try have : w2.heap.size + 1 + 1 < w6.heap.size:=by omega);(try have : w2.heap.size + 1 + 1 + 1 < w6.heap.size:=by omega);(try have : w3.heap.size < w6.heap.size:=by omega);(try have : w3.heap.size + 1 < w6.heap.size:=by omega);(try have : w3.heap.size + 1 + 1 < w6.heap.size:=by omega);(try have : w3.heap.size + 1 + 1 + 1 < w6.heap.size:=by omega);(try have : w4.heap.size < w6.heap.size:=by omega);(try have : w4.heap.size + 1 < w6.heap.size:=by omega);(try have : w4.heap.size + 1 + 1 < w6.heap.size:=by omega);(try have : w4.heap.size + 1 + 1 + 1 < w6.heap.size:=by omega);(try have : w5.heap.size < w6.heap.size:=by omega);(try have : w5.heap.size + 1 < w6.heap.size:=by omega);(try have : w5.heap.size + 1 + 1 < w6.heap.size:=by omega);(try have : w5.heap.size + 1 + 1 + 1 < w6.heap.size:=by omega);obtain ⟨hbw6c,hbw6f⟩:=bcell hbw6) | (go_at_call 12;(with_reducible refine (HSM.out A1 C1 B1 D1 A3 C3 B3 D3 _ (va_below HV1.out (by (repeat' first|(with_reducible first|exact blR _ _|assumption|refine blD ?_|refine blN ?_ _)|((with_reducible first|refine blA ?_ ?_ _|refine blS ?_ ?_ _|refine blT (by assumption) ?_ ?_);focus (go_size;done))))) (va_below HV3.out (by (repeat' first|(with_reducible first|exact blR _ _|assumption|refine blD ?_|refine blN ?_ _)|((with_reducible first|refine blA ?_ ?_ _|refine blS ?_ ?_ _|refine blT (by assumption) ?_ ?_);focus (go_size;done)))))).mono ?_);rintro _ w7 ⟨rfl,hbw7⟩;have hbw7s:=hbw7.size;(try simp only [World.size_alloc] at hbw7s);(try have : w.heap.size < w7.heap.size:=by omega);(try have : w.heap.size + 1 < w7.heap.size:=by omega);(try have : w.heap.size + 1 + 1 < w7.heap.size:=by omega);(try have : w.heap.size + 1 + 1 + 1 < w7.heap.size:=by omega);(try have : w2.heap.size < w7.heap.size:=by omega);(try have : w2.heap.size + 1 < w7.heap.size:=by omega);(try have : w2.heap.size + 1 + 1 < w7.heap.size:=by omega);(try have : w2.heap.size + 1 + 1 + 1 < w7.heap.size:=by omega);(try have : w3.heap.size < w7.heap.size:=by omega);(try have : w3.heap.size + 1 < w7.heap.size:=by omega);(try have : w3.heap.size + 1 + 1 < w7.heap.size:=by omega);(try have : w3.heap.size + 1 + 1 + 1 < w7.heap.size:=by omega);(try have : w4.heap.size < w7.heap.size:=by omega);(try have : w4.heap.size + 1 < w7.heap.size:=by omega);(try have : w4.heap.size + 1 + 1 < w7.heap.size:=by omega);(try have : w4.heap.size + 1 + 1 + 1 < w7.heap.size:=by omega);(try have : w5.heap.size < w7.heap.size:=by omega);(try have : w5.heap.size + 1 < w7.heap.size:=by omega);(try have : w5.heap.size + 1 + 1 < w7.heap.size:=by omega);(try have : w5.heap.size + 1 + 1 + 1 < w7.heap.size:=by omega);obtain ⟨hbw7c,hbw7f⟩:=bcell hbw7) | (go_at_call 12;(with_reducible refine (HSM.out A1 C1 B1 D1 A4 C4 B4 D4 _ (va_below HV1.out (by (repeat' first|(with_reducible first|exact blR _ _|assumption|refine blD ?_|refine blN ?_ _)|((with_reducible first|refine blA ?_ ?_ _|refine blS ?_ ?_ _|refine blT (by assumption) ?_ ?_);focus (go_size;done))))) (va_below HV4.out (by (repeat' first|(with_reducible first|exact blR _ _|assumption|refine blD ?_|refine blN ?_ _)|((with_reducible first|refine blA ?_ ?_ _|refine blS ?_ ?_ _|refine blT (by assumption) ?_ ?_);focus (go_size;done)))))).mono ?_);rintro _ w8 ⟨rfl,hbw8⟩;have hbw8s:=hbw8.size;(try simp only [World.size_alloc] at hbw8s);(try have : w.heap.size < w8.heap.size:=by omega);(try have : w.heap.size + 1 < w8.heap.size:=by omega);(try have : w.heap.size + 1 + 1 < w8.heap.size:=by omega);(try have : w.heap.size + 1 + 1 + 1 < w8.heap.size:=by omega);(try have : w2.heap.size < w8.heap.size:=by omega);(try have : w2.heap.size + 1 < w8.heap.size:=by omega);(try have : w2.heap.size + 1 + 1 < w8.heap.size:=by omega);(try have : w2.heap.size + 1 + 1 + 1 < w8.heap.size:=by omega);(try have : w3.heap.size < w8.heap.size:=by omega);(try have : w3.heap.size + 1 < w8.heap.size:=by omega);(try have : w3.heap.size + 1 + 1 < w8.heap.size:=by omega);(try have : w3.heap.size + 1 + 1 + 1 < w8.heap.size:=by omega);(try have : w4.heap.size < w8.heap.size:=by omega);(try have : w4.heap.size + 1 < w8.heap.size:=by omega);(try have : w4.heap.size + 1 + 1 < w8.heap.size:=by omega);(try have : w4.heap.size + 1 + 1 + 1 < w8.heap.size:=by omega);(try have : w5.heap.size < w8.heap.size:=by omega);(try have : w5.heap.size + 1 < w8.heap.size:=by omega);(try have : w5.heap.size + 1 + 1 < w8.heap.size:=by omega);(try have : w5.heap.size + 1 + 1 + 1 < w8.heap.size:=by omega);obtain ⟨hbw8c,hbw8f⟩:=bcell hbw8) | (go_at_call 12;(with_reducible refine (HSM.out A2 C2 B2 D2 A4 C4 B4 D4 _ (va_below HV2.out (by (repeat' first|(with_reducible first|exact blR _ _|assumption|refine blD ?_|refine blN ?_ _)|((with_reducible first|refine blA ?_ ?_ _|refine blS ?_ ?_ _|refine blT (by assumption) ?_ ?_);focus (go_size;done))))) (va_below HV4.out (by (repeat' first|(with_reducible first|exact blR _ _|assumption|refine blD ?_|refine blN ?_ _)|((with_reducible first|refine blA ?_ ?_ _|refine blS ?_ ?_ _|refine blT (by assumption) ?_ ?_);focus (go_size;done)))))).mono ?_);rintro _ w9 ⟨rfl,hbw9⟩;have hbw9s:=hbw9.size;(try simp only [World.size_alloc] at hbw9s);(try have : w.heap.size < w9.heap.size:=by omega);(try have : w.heap.size + 1 < w9.heap.size:=by omega);(try have : w.heap.size + 1 + 1 < w9.heap.size:=by omega);(try have : w.heap.size + 1 + 1 + 1 < w9.heap.size:=by omega);(try have : w2.heap.size < w9.heap.size:=by omega);(try have : w2.heap.size + 1 < w9.heap.size:=by omega);(try have : w2.heap.size + 1 + 1 < w9.heap.size:=by omega);(try have : w2.heap.size + 1 + 1 + 1 < w9.heap.size:=by omega);(try have : w3.heap.size < w9.heap.size:=by omega);(try have : w3.heap.size + 1 < w9.heap.size:=by omega);(try have : w3.heap.size + 1 + 1 < w9.heap.size:=by omega);(try have : w3.heap.size + 1 + 1 + 1 < w9.heap.size:=by omega);(try have : w4.heap.size < w9.heap.size:=by omega);(try have : w4.heap.size + 1 < w9.heap.size:=by omega);(try have : w4.heap.size + 1 + 1 < w9.heap.size:=by omega);(try have : w4.heap.size + 1 + 1 + 1 < w9.heap.size:=by omega);(try have : w5.heap.size < w9.heap.size:=by omega);(try have : w5.heap.size + 1 < w9.heap.size:=by omega);(try have : w5.heap.size + 1 + 1 < w9.heap.size:=by omega);(try have : w5.heap.size + 1 + 1 + 1 < w9.heap.size:=by omega);obtain ⟨hbw9c,hbw9f⟩:=bcell hbw9))
 go_ret
 exact ⟨rfl,by (repeat' first|(with_reducible first|exact blR _ _|assumption|refine blD ?_|refine blN ?_ _)|((with_reducible first|refine blA ?_ ?_ _|refine blS ?_ ?_ _|refine blT (by assumption) ?_ ?_);focus (go_size;done)))⟩
set_option maxRecDepth 100000 in
set_option maxHeartbeats 4000000 in
theorem singles_some (N O R V : Value) (n nn on vn NC OC RC VC0 : Nat) (NA OA RA VA0 : Option Addr) (hN : N = .slice NA nn NC) (hO : O = .slice OA on OC) (hR : R = .slice RA n RC) (hV : V = .slice VA0 vn VC0) (w : World) (HK : Hid (∀ W : World,Below w.heap.size w W → Calls Tryz.prog 9 #[] W fun e w' => e = .returned (.bool true) ∧ Below W.heap.size W w')) (d1 d3 d : VD) (e1 e3 : Int) (hd : d.size ≤ 1000) (t1 : e1 ≠ 0) (t2 : e1 ≠ 2) (t3 : e3 ≠ 2) (hn : n < 2 ∨ e1 = 14)
  (h1 : LDec 1 d1 e1 (.agg #[N,O,R,V]) w) (h2 : LDec 2 d 0 (.agg #[N,O,R,V]) w) (h3 : LDec 3 d3 e3 (.agg #[N,O,R,V]) w) (h4 : LDec 4 d 0 (.agg #[N,O,R,V]) w) :
  Calls Tryz.prog 4 #[.agg #[N,O,R,V]] w fun e w' => e = .returned (.bool true) ∧ Below w.heap.size w w':=by
 subst hN hO hR hV
 unfold LDec at h1 h2 h3 h4
 have H1:=Lib.hid h1
 have H2:=Lib.hid h2
 have H3:=Lib.hid h3
 have H4:=Lib.hid h4
 clear h1 h2 h3 h4
 have HSM:=Lib.hid (fun (A : Option Addr) (C : Nat) (A2 : Option Addr) (C2 : Nat) (B : Option Addr) (D : Nat) (B2 : Option Addr) (D2 : Nat) (W : World) (hx : VA W d A C A2 C2) (hy : VA W d B D B2 D2) => same_self d A C A2 C2 B D B2 D2 W hx hy hd)
 have g1 : (e1 == 0) = false:=by rw [beq_eq_false_iff_ne];exact t1
 have g2 : (e1 == 2) = false:=by rw [beq_eq_false_iff_ne];exact t2
 have g3 : (e3 == 2) = false:=by rw [beq_eq_false_iff_ne];exact t3
 have hcase : (n : Int) < 2 ∨ (¬ (n : Int) < 2 ∧ (e1 == 14) = true):=by
  by_cases h : n < 2
  ·left;omega
  ·right
   rcases hn with h' | h'
   ·omega
   ·exact ⟨by omega,by rw [beq_iff_eq];exact h'⟩
 clear hd hn t1 t2 t3
 rcases hcase with g4 | ⟨g4,g5⟩
 all_goals
  go_enter Tryz.func4,Tryz.ntmps4
  go_wp2_with (first | ((go_at_call 9;with_reducible refine (HK.out _ (by (repeat' first|(with_reducible first|exact blR _ _|assumption|refine blD ?_|refine blN ?_ _)|((with_reducible first|refine blA ?_ ?_ _|refine blS ?_ ?_ _|refine blT (by assumption) ?_ ?_);focus (go_size;done))))).mono ?_);rintro _ w1 ⟨rfl,hb1⟩;have hb1s:=hb1.size;(try simp only [wsA,wsS,wsD,wsN] at hb1s);obtain ⟨hb1c,hb1f⟩:=bcell hb1;(try have : w.heap.size < w1.heap.size:=by omega);(try have : w.heap.size + 1 < w1.heap.size:=by omega);(try have : w.heap.size + 1 + 1 < w1.heap.size:=by omega);(try have : w.heap.size + 1 + 1 + 1 < w1.heap.size:=by omega)) | (go_at_call 11;(with_reducible refine (H1.out _ (by (repeat' first|(with_reducible first|exact blR _ _|assumption|refine blD ?_|refine blN ?_ _)|((with_reducible first|refine blA ?_ ?_ _|refine blS ?_ ?_ _|refine blT (by assumption) ?_ ?_);focus (go_size;done))))).mono ?_);rintro _ w2 ⟨A1,C1,B1,D1,rfl,hv1,hbw2⟩;have HV1:=Lib.hid hv1.va;clear hv1;have hbw2s:=hbw2.size;(try simp only [World.size_alloc] at hbw2s);(try have : w.heap.size < w2.heap.size:=by omega);(try have : w.heap.size + 1 < w2.heap.size:=by omega);(try have : w.heap.size + 1 + 1 < w2.heap.size:=by omega);(try have : w.heap.size + 1 + 1 + 1 < w2.heap.size:=by omega);(try have : w1.heap.size < w2.heap.size:=by omega);(try have : w1.heap.size + 1 < w2.heap.size:=by omega);(try have : w1.heap.size + 1 + 1 < w2.heap.size:=by omega);(try have : w1.heap.size + 1 + 1 + 1 < w2.heap.size:=by omega);obtain ⟨hbw2c,hbw2f⟩:=bcell hbw2) | (go_at_call 11;(with_reducible refine (H2.out _ (by (repeat' first|(with_reducible first|exact blR _ _|assumption|refine blD ?_|refine blN ?_ _)|((with_reducible first|refine blA ?_ ?_ _|refine blS ?_ ?_ _|refine blT (by assumption) ?_ ?_);focus (go_size;done))))).mono ?_);rintro _ w3 ⟨A2,C2,B2,D2,rfl,hv2,hbw3⟩;have HV2:=Lib.hid hv2.va;clear hv2;have hbw3s:=hbw3.size;(try simp only [World.size_alloc] at hbw3s);(try have : w.heap.size < w3.heap.size:=by omega);(try have : w.heap.size + 1 < w3.heap.size:=by omega);(try have : w.heap.size + 1 + 1 < w3.heap.size:=by omega);(try have : w.heap.size + 1 + 1 + 1 < w3.heap.size:=by omega);(try have : w2.heap.size < w3.heap.size:=by omega);(try have : w2.heap.size + 1 < w3.heap.size:=by omega);(try have : w2.heap.size + 1 + 1 < w3.heap.size:=by omega);(try have : w2.heap.size + 1 + 1 + 1 < w3.heap.size:=by omega);obtain ⟨hbw3c,hbw3f⟩:=bcell hbw3) | ((go_at_call 11;(with_reducible refine (H3.out _ (by (repeat' first|(with_reducible first|exact blR _ _|assumption|refine blD ?_|refine blN ?_ _)|((with_reducible first|refine blA ?_ ?_ _|refine blS ?_ ?_ _|refine blT (by assumption) ?_ ?_);focus (go_size;done))))).mono ?_);rintro _ w4 ⟨A3,C3,B3,D3,rfl,hv3,hbw4⟩;have HV3:=Lib.hid hv3.va;clear hv3;have hbw4s:=hbw4.size;(try simp only [World.size_alloc] at hbw4s);(try have : w.heap.size < w4.heap.size:=by omega);(try have : w.heap.size + 1 < w4.heap.size:=by omega);(try have : w.heap.size + 1 + 1 < w4.heap.size:=by omega);(try have : w.heap.size + 1 + 1 + 1 < w4.heap.size:=by omega);(try have : w3.heap.size < w4.heap.size:=by omega);(try have : w3.heap.size + 1 < w4.heap.size:=by omega);(try have : w3.heap.size + 1 + 1 < w4.heap.size:=by omega);(try have : w3.heap.size + 1 + 1 + 1 < w4.heap.size:=by omega);obtain ⟨hbw4c,hbw4f⟩:=bcell hbw4);(try have : w2.heap.size < w4.heap.size:=by omega);(try have : w2.heap.size + 1 < w4.heap.size:=by omega);(try have : w2.heap.size + 1 + 1 < w4.heap.size:=by omega);(try have : w2.heap.size + 1 + 1 + 1 < w4.heap.size:=by omega)) | ((go_at_call 11;(with_reducible refine (H4.out _ (by (repeat' first|(with_reducible first|exact blR _ _|assumption|refine blD ?_|refine blN ?_ _)|((with_reducible first|refine blA ?_ ?_ _|refine blS ?_ ?_ _|refine blT (by assumption) ?_ ?_);focus (go_size;done))))).mono ?_);rintro _ w5 ⟨A4,C4,B4,D4,rfl,hv4,hbw5⟩;have HV4:=Lib.hid hv4.va;clear hv4;have hbw5s:=hbw5.size;(try simp only [World.size_alloc] at hbw5s);(try have : w.heap.size < w5.heap.size:=by omega);(try have : w.heap.size + 1 < w5.heap.size:=by omega);(try have : w.heap.size + 1 + 1 < w5.heap.size:=by omega);(try have : w.heap.size + 1 + 1 + 1 < w5.heap.size:=by omega);(try have : w4.heap.size < w5.heap.size:=by omega);(try have : w4.heap.size + 1 < w5.heap.size:=by omega);(try have : w4.heap.size + 1 + 1 < w5.heap.size:=by omega);(try have : w4.heap.size + 1 + 1 + 1 < w5.heap.size:=by omega);obtain ⟨hbw5c,hbw5f⟩:=bcell hbw5);(try have : w2.heap.size < w5.heap.size:=by omega);(try have : w2.heap.size + 1 < w5.heap.size:=by omega);(try have : w2.heap.size + 1 + 1 < w5.heap.size:=by omega);(try have : w2.heap.size + 1 + 1 + 1 < w5.heap.size:=by omega);(try have : w3.heap.size < w5.heap.size:=by omega);(try have : w3.heap.size + 1 < w5.heap.size:=by omega);(try have : w3.heap.size + 1 + 1 < w5.heap.size:=by omega);(try have : w3.heap.size + 1 + 1 + 1 < w5.heap.size:=by omega)) | (go_at_call 12;(with_reducible refine (HSM.out A2 C2 B2 D2 A4 C4 B4 D4 _ (va_below HV2.out (by (repeat' first|(with_reducible first|exact blR _ _|assumption|refine blD ?_|refine blN ?_ _)|((with_reducible first|refine blA ?_ ?_ _|refine blS ?_ ?_ _|refine blT (by assumption) ?_ ?_);focus (go_size;done))))) (va_below HV4.out (by (repeat' first|(with_reducible first|exact blR _ _|assumption|refine blD ?_|refine blN ?_ _)|((with_reducible first|refine blA ?_ ?_ _|refine blS ?_ ?_ _|refine blT (by assumption) ?_ ?_);focus (go_size;done)))))).mono ?_);rintro _ w9 ⟨rfl,hbw9⟩;have hbw9s:=hbw9.size;(try simp only [World.size_alloc] at hbw9s);(try have : w.heap.size < w9.heap.size:=by omega);(try have : w.heap.size + 1 < w9.heap.size:=by omega);(try have : w.heap.size + 1 + 1 < w9.heap.size:=by omega);(try have : w.heap.size + 1 + 1 + 1 < w9.heap.size:=by omega);(try have : w2.heap.size < w9.heap.size:=by omega);(try have : w2.heap.size + 1 < w9.heap.size:=by omega);(try have : w2.heap.size + 1 + 1 < w9.heap.size:=by omega);(try have : w2.heap.size + 1 + 1 + 1 < w9.heap.size:=by omega);(try have : w3.heap.size < w9.heap.size:=by omega);(try have : w3.heap.size + 1 < w9.heap.size:=by omega);(try have : w3.heap.size + 1 + 1 < w9.heap.size:=by omega);(try have : w3.heap.size + 1 + 1 + 1 < w9.heap.size:=by omega);(try have : w4.heap.size < w9.heap.size:=by omega);(try have : w4.heap.size + 1 < w9.heap.size:=by omega);(try have : w4.heap.size + 1 + 1 < w9.heap.size:=by omega);(try have : w4.heap.size + 1 + 1 + 1 < w9.heap.size:=by omega);(try have : w5.heap.size < w9.heap.size:=by omega);(try have : w5.heap.size + 1 < w9.heap.size:=by omega);(try have : w5.heap.size + 1 + 1 < w9.heap.size:=by omega);(try have : w5.heap.size + 1 + 1 + 1 < w9.heap.size:=by omega);obtain ⟨hbw9c,hbw9f⟩:=bcell hbw9))
  go_ret
  exact ⟨ret_bool (by simp),by (repeat' first|(with_reducible first|exact blR _ _|assumption|refine blD ?_|refine blN ?_ _)|((with_reducible first|refine blA ?_ ?_ _|refine blS ?_ ?_ _|refine blT (by assumption) ?_ ?_);focus (go_size;done)))⟩
set_option maxRecDepth 100000 in
set_option maxHeartbeats 4000000 in
theorem singles_none (N O R V : Value) (n nn on vn NC OC RC VC0 : Nat) (NA OA RA VA0 : Option Addr) (hN : N = .slice NA nn NC) (hO : O = .slice OA on OC) (hR : R = .slice RA n RC) (hV : V = .slice VA0 vn VC0) (w : World) (HK : Hid (∀ W : World,Below w.heap.size w W → Calls Tryz.prog 9 #[] W fun e w' => e = .returned (.bool true) ∧ Below W.heap.size W w')) (d1 d2 d3 d4 : VD) (e1 e2 e3 e4 : Int) (t1 : e1 ≠ 0) (t2 : e1 ≠ 2) (t3 : e2 ≠ 0) (t4 : e2 ≠ 2) (t5 : e3 ≠ 2) (t6 : e4 ≠ 2) (hn : n < 2 ∨ e1 = 14)
  (h1 : LDec 1 d1 e1 (.agg #[N,O,R,V]) w) (h2 : LDec 2 d2 e2 (.agg #[N,O,R,V]) w) (h3 : LDec 3 d3 e3 (.agg #[N,O,R,V]) w) (h4 : LDec 4 d4 e4 (.agg #[N,O,R,V]) w) :
  Calls Tryz.prog 4 #[.agg #[N,O,R,V]] w fun e w' => e = .returned (.bool true) ∧ Below w.heap.size w w':=by
 subst hN hO hR hV
 unfold LDec at h1 h2 h3 h4
 have H1:=Lib.hid h1
 have H2:=Lib.hid h2
 have H3:=Lib.hid h3
 have H4:=Lib.hid h4
 clear h1 h2 h3 h4
 have g1 : (e1 == 0) = false:=by rw [beq_eq_false_iff_ne];exact t1
 have g2 : (e1 == 2) = false:=by rw [beq_eq_false_iff_ne];exact t2
 have g3 : (e2 == 0) = false:=by rw [beq_eq_false_iff_ne];exact t3
 have g4 : (e2 == 2) = false:=by rw [beq_eq_false_iff_ne];exact t4
 have g5 : (e3 == 2) = false:=by rw [beq_eq_false_iff_ne];exact t5
 have g6 : (e4 == 2) = false:=by rw [beq_eq_false_iff_ne];exact t6
 have hcase : (n : Int) < 2 ∨ (¬ (n : Int) < 2 ∧ (e1 == 14) = true):=by
  by_cases h : n < 2
  ·left;omega
  ·right
   rcases hn with h' | h'
   ·omega
   ·exact ⟨by omega,by rw [beq_iff_eq];exact h'⟩
 clear hn t1 t2 t3 t4 t5 t6
 rcases hcase with g7 | ⟨g7,g8⟩
 all_goals
  go_enter Tryz.func4,Tryz.ntmps4
  go_wp2_with (first | ((go_at_call 9;with_reducible refine (HK.out _ (by (repeat' first|(with_reducible first|exact blR _ _|assumption|refine blD ?_|refine blN ?_ _)|((with_reducible first|refine blA ?_ ?_ _|refine blS ?_ ?_ _|refine blT (by assumption) ?_ ?_);focus (go_size;done))))).mono ?_);rintro _ w1 ⟨rfl,hb1⟩;have hb1s:=hb1.size;(try simp only [wsA,wsS,wsD,wsN] at hb1s);obtain ⟨hb1c,hb1f⟩:=bcell hb1;(try have : w.heap.size < w1.heap.size:=by omega);(try have : w.heap.size + 1 < w1.heap.size:=by omega);(try have : w.heap.size + 1 + 1 < w1.heap.size:=by omega);(try have : w.heap.size + 1 + 1 + 1 < w1.heap.size:=by omega)) | (go_at_call 11;(with_reducible refine (H1.out _ (by (repeat' first|(with_reducible first|exact blR _ _|assumption|refine blD ?_|refine blN ?_ _)|((with_reducible first|refine blA ?_ ?_ _|refine blS ?_ ?_ _|refine blT (by assumption) ?_ ?_);focus (go_size;done))))).mono ?_);rintro _ w2 ⟨A1,C1,B1,D1,rfl,hv1,hbw2⟩;have HV1:=Lib.hid hv1.va;clear hv1;have hbw2s:=hbw2.size;(try simp only [World.size_alloc] at hbw2s);(try have : w.heap.size < w2.heap.size:=by omega);(try have : w.heap.size + 1 < w2.heap.size:=by omega);(try have : w.heap.size + 1 + 1 < w2.heap.size:=by omega);(try have : w.heap.size + 1 + 1 + 1 < w2.heap.size:=by omega);(try have : w1.heap.size < w2.heap.size:=by omega);(try have : w1.heap.size + 1 < w2.heap.size:=by omega);(try have : w1.heap.size + 1 + 1 < w2.heap.size:=by omega);(try have : w1.heap.size + 1 + 1 + 1 < w2.heap.size:=by omega);obtain ⟨hbw2c,hbw2f⟩:=bcell hbw2) | (go_at_call 11;(with_reducible refine (H2.out _ (by (repeat' first|(with_reducible first|exact blR _ _|assumption|refine blD ?_|refine blN ?_ _)|((with_reducible first|refine blA ?_ ?_ _|refine blS ?_ ?_ _|refine blT (by assumption) ?_ ?_);focus (go_size;done))))).mono ?_);rintro _ w3 ⟨A2,C2,B2,D2,rfl,hv2,hbw3⟩;have HV2:=Lib.hid hv2.va;clear hv2;have hbw3s:=hbw3.size;(try simp only [World.size_alloc] at hbw3s);(try have : w.heap.size < w3.heap.size:=by omega);(try have : w.heap.size + 1 < w3.heap.size:=by omega);(try have : w.heap.size + 1 + 1 < w3.heap.size:=by omega);(try have : w.heap.size + 1 + 1 + 1 < w3.heap.size:=by omega);(try have : w2.heap.size < w3.heap.size:=by omega);(try have : w2.heap.size + 1 < w3.heap.size:=by omega);(try have : w2.heap.size + 1 + 1 < w3.heap.size:=by omega);(try have : w2.heap.size + 1 + 1 + 1 < w3.heap.size:=by omega);obtain ⟨hbw3c,hbw3f⟩:=bcell hbw3) | ((go_at_call 11;(with_reducible refine (H3.out _ (by (repeat' first|(with_reducible first|exact blR _ _|assumption|refine blD ?_|refine blN ?_ _)|((with_reducible first|refine blA ?_ ?_ _|refine blS ?_ ?_ _|refine blT (by assumption) ?_ ?_);focus (go_size;done))))).mono ?_);rintro _ w4 ⟨A3,C3,B3,D3,rfl,hv3,hbw4⟩;have HV3:=Lib.hid hv3.va;clear hv3;have hbw4s:=hbw4.size;(try simp only [World.size_alloc] at hbw4s);(try have : w.heap.size < w4.heap.size:=by omega);(try have : w.heap.size + 1 < w4.heap.size:=by omega);(try have : w.heap.size + 1 + 1 < w4.heap.size:=by omega);(try have : w.heap.size + 1 + 1 + 1 < w4.heap.size:=by omega);(try have : w3.heap.size < w4.heap.size:=by omega);(try have : w3.heap.size + 1 < w4.heap.size:=by omega);(try have : w3.heap.size + 1 + 1 < w4.heap.size:=by omega);(try have : w3.heap.size + 1 + 1 + 1 < w4.heap.size:=by omega);obtain ⟨hbw4c,hbw4f⟩:=bcell hbw4);(try have : w2.heap.size < w4.heap.size:=by omega);(try have : w2.heap.size + 1 < w4.heap.size:=by omega);(try have : w2.heap.size + 1 + 1 < w4.heap.size:=by omega);(try have : w2.heap.size + 1 + 1 + 1 < w4.heap.size:=by omega)) | ((go_at_call 11;(with_reducible refine (H4.out _ (by (repeat' first|(with_reducible first|exact blR _ _|assumption|refine blD ?_|refine blN ?_ _)|((with_reducible first|refine blA ?_ ?_ _|refine blS ?_ ?_ _|refine blT (by assumption) ?_ ?_);focus (go_size;done))))).mono ?_);rintro _ w5 ⟨A4,C4,B4,D4,rfl,hv4,hbw5⟩;have HV4:=Lib.hid hv4.va;clear hv4;have hbw5s:=hbw5.size;(try simp only [World.size_alloc] at hbw5s);(try have : w.heap.size < w5.heap.size:=by omega);(try have : w.heap.size + 1 < w5.heap.size:=by omega);(try have : w.heap.size + 1 + 1 < w5.heap.size:=by omega);(try have : w.heap.size + 1 + 1 + 1 < w5.heap.size:=by omega);(try have : w4.heap.size < w5.heap.size:=by omega);(try have : w4.heap.size + 1 < w5.heap.size:=by omega);(try have : w4.heap.size + 1 + 1 < w5.heap.size:=by omega);(try have : w4.heap.size + 1 + 1 + 1 < w5.heap.size:=by omega);obtain ⟨hbw5c,hbw5f⟩:=bcell hbw5);(try have : w2.heap.size < w5.heap.size:=by omega);(try have : w2.heap.size + 1 < w5.heap.size:=by omega);(try have : w2.heap.size + 1 + 1 < w5.heap.size:=by omega);(try have : w2.heap.size + 1 + 1 + 1 < w5.heap.size:=by omega);(try have : w3.heap.size < w5.heap.size:=by omega);(try have : w3.heap.size + 1 < w5.heap.size:=by omega);(try have : w3.heap.size + 1 + 1 < w5.heap.size:=by omega);(try have : w3.heap.size + 1 + 1 + 1 < w5.heap.size:=by omega)))
  go_ret
  exact ⟨ret_bool (by simp),by (repeat' first|(with_reducible first|exact blR _ _|assumption|refine blD ?_|refine blN ?_ _)|((with_reducible first|refine blA ?_ ?_ _|refine blS ?_ ?_ _|refine blT (by assumption) ?_ ?_);focus (go_size;done)))⟩
theorem walk_singles (names : List (List UInt8)) (order rows : List (List VD)) (other : List VD) (N O R V : Value) (w : World) (hT : Tabs w) (hn : Nms w N names) (ho : Lls w O order) (hr : Lls w R rows) (hv : Vls (RV w) w V other) :
  Calls Tryz.prog 4 #[.agg #[N,O,R,V]] w fun e w' => e = .returned (.bool true) ∧ Below w.heap.size w w':=by
 have HK:=Lib.hid (fun (W : World) (hW : Below w.heap.size w W) => known18_any W (tabs_below hT hW))
 have L:=fun (p : Int) (d : VD) (e : Int) (h : decAll p names order rows other = (d,e)) => ldec_of p hT hn ho hr hv h
 obtain ⟨NA,NC,eN,_⟩:=hn.is
 obtain ⟨OA,OC,eO,_⟩:=ho.is
 obtain ⟨RA,RC,eR,_⟩:=hr.is
 obtain ⟨VA0,VC0,eV,_⟩:=hv.is
 rcases singles_plain names order rows other with h | h
 ·exact singles_form N O R V _ _ _ _ _ _ _ _ _ _ _ _ eN eO eR eV w HK (L 1 _ _ (h 1 (by decide) (by decide))) (L 2 _ _ (h 2 (by decide) (by decide))) (L 3 _ _ (h 3 (by decide) (by decide))) (L 4 _ _ (h 4 (by decide) (by decide)))
 ·have n1:=h.no2 1 (by decide) (by decide)
  have n2:=h.no2 2 (by decide) (by decide)
  have n3:=h.no2 3 (by decide) (by decide)
  have n4:=h.no2 4 (by decide) (by decide)
  have hu:=h.uniq
  have ha:=h.any
  have hm:=h.many
  have s1:=decAll_size 1 names order rows other
  have s2:=decAll_size 2 names order rows other
  replace n1 : (decAll 1 names order rows other).2 ≠ 2:=n1
  replace n2 : (decAll 2 names order rows other).2 ≠ 2:=n2
  replace n3 : (decAll 3 names order rows other).2 ≠ 2:=n3
  replace n4 : (decAll 4 names order rows other).2 ≠ 2:=n4
  replace hu : (decAll 1 names order rows other).2 = 0 → decAll 2 names order rows other = decAll 1 names order rows other ∧ decAll 3 names order rows other = decAll 1 names order rows other ∧ decAll 4 names order rows other = decAll 1 names order rows other:=hu
  replace ha : (decAll 2 names order rows other).2 = 0 → decAll 4 names order rows other = decAll 2 names order rows other:=ha
  replace hm : rows.length < 2 ∨ (decAll 1 names order rows other).2 = 14:=hm
  have l1 : LDec 1 (decAll 1 names order rows other).1 (decAll 1 names order rows other).2 (.agg #[N,O,R,V]) w:=L 1 (decAll 1 names order rows other).1 (decAll 1 names order rows other).2 rfl
  have l2 : LDec 2 (decAll 2 names order rows other).1 (decAll 2 names order rows other).2 (.agg #[N,O,R,V]) w:=L 2 (decAll 2 names order rows other).1 (decAll 2 names order rows other).2 rfl
  have l3 : LDec 3 (decAll 3 names order rows other).1 (decAll 3 names order rows other).2 (.agg #[N,O,R,V]) w:=L 3 (decAll 3 names order rows other).1 (decAll 3 names order rows other).2 rfl
  have l4 : LDec 4 (decAll 4 names order rows other).1 (decAll 4 names order rows other).2 (.agg #[N,O,R,V]) w:=L 4 (decAll 4 names order rows other).1 (decAll 4 names order rows other).2 rfl
  clear L h
  by_cases e1 : (decAll 1 names order rows other).2 = 0
  ·obtain ⟨q2,q3,q4⟩:=hu e1
   rw [q2,e1] at l2
   rw [q3,e1] at l3
   rw [q4,e1] at l4
   rw [e1] at l1 hm
   exact singles_zero N O R V _ _ _ _ _ _ _ _ _ _ _ _ eN eO eR eV w HK _ s1 (by omega) l1 l2 l3 l4
  ·by_cases e2 : (decAll 2 names order rows other).2 = 0
   ·have q4:=ha e2
    rw [q4,e2] at l4
    rw [e2] at l2
    exact singles_some N O R V _ _ _ _ _ _ _ _ _ _ _ _ eN eO eR eV w HK _ _ _ _ _ s2 e1 n1 n3 hm l1 l2 l3 l4
   ·exact singles_none N O R V _ _ _ _ _ _ _ _ _ _ _ _ eN eO eR eV w HK _ _ _ _ _ _ _ _ e1 n1 e2 n2 n3 n4 hm l1 l2 l3 l4
end Go.Proofs.YtkjecoanlppeaaaGreatDoor



namespace Go.Proofs.YtkjecoanlppeaaaGreatDoor
open Go.RowKit
open Go.ChangeShapes Go.WideShapes Go.ChangeAt
open Go.ChangeMaps (open_string shut_string)

set_option maxRecDepth 100000 in
theorem open_table {H : Type} {enc : TypeId × Value → H} {W : World} {base b0 : Nat} {v : Value} {d : DataW H} {p : List MemPlace} {sp : Nat → Bool} {held : Bool}
  (hv : Value.okWide Tryz.prog W .any base 26 v) (h : DataW.Trod enc Tryz.prog W b0 sp held 26 v d p) (hb : Rows.uptoBulk d ≤ 1048576) :
  ∃ (N O R V : Value) (names : List (List UInt8)) (order rows : List (List VD)) (other : List VD),v = .agg #[N,O,R,V] ∧ Nms W N names ∧ Lls W O order ∧ Lls W R rows ∧ Vls (RV W) W V other ∧ (∀ t,t < order.length → SmallL (lg order t)) ∧ (∀ t,t < rows.length → SmallL (lg rows t)) ∧ SmallL other:=by
 obtain ⟨c0,c1,c2,c3,y0,y1,y2,y3,m,rfl,rfl,rfl,h0,h1,h2,h3⟩:=Joins.open_agg4 Tryz.underlying26 (by kernel_rfl) (by kernel_rfl) hv h
 simp only [Rows.uptoBulk,Rows.uptoBulkAll] at hb
 obtain ⟨_,_,names,_,hn⟩:=open_names h0 (by omega)
 obtain ⟨_,_,order,_,ho,hso⟩:=open_lls h1 (by omega)
 obtain ⟨_,_,rows,_,hr,hsr⟩:=open_lls h2 (by omega)
 obtain ⟨_,_,other,_,hv,hs⟩:=open_vls h3 (by omega)
 exact ⟨c0,c1,c2,c3,names,order,rows,other,rfl,hn,ho,hr,hv,hso,hsr,smallL_of (by omega)⟩
@[reducible] def tabZ : Value:=.agg #[.slice none 0 0,.slice none 0 0,.slice none 0 0,.slice none 0 0]
end Go.Proofs.YtkjecoanlppeaaaGreatDoor

