/- The contracts of the functions that the laws reach, part 1: what each returns and what becomes of memory. -/
import Derived.Test.YtkjecoanlppeaaaGreatDoorRows
import Derived.WalkKit
import Derived.WalkSpells
import Derived.WalkLawsBesides
import Derived.Handy
import Derived.Lib.Hide
import Derived.BigQuiet
import Derived.Deep.QuietTactic
import Derived.Deep.LoopGhost
import Derived.Deep.RegionHeld3
import Init.Omega
import Derived.Laws.AppendOwn
import Derived.Lib.TrimUEq
import Derived.Lib.ValidU
import Derived.Shelf.GgClosure.StringsIndexFunc
import Derived.Shelf.GgClosure.StringsIndexFuncTop
import Derived.ChangeKeysEq
import Derived.Deep.OwnRows
set_option linter.unusedSimpArgs false
set_option linter.unusedVariables false


namespace Go.Proofs.YtkjecoanlppeaaaGreatDoor
open Go.RowKit

theorem bcell {W w1 : World} (hb : Below W.heap.size W w1) : (∀ b o,b < W.heap.size → w1.cell? ⟨b,o,none⟩ = W.cell? ⟨b,o,none⟩) ∧ (∀ b o,b < W.heap.size → w1.frozen? ⟨b,o,none⟩ = W.frozen? ⟨b,o,none⟩) :=
 ⟨fun b o h => hb.cell (p:=⟨b,o,none⟩) h,fun b o h => hb.frozen (p:=⟨b,o,none⟩) h⟩
theorem ret_int {k : IntKind} {a b : Int} (h : a = b) : Ending.returned (.int k a) = .returned (.int k b):=by rw [h]
theorem ret_bool {a b : Bool} (h : a = b) : Ending.returned (.bool a) = .returned (.bool b):=by rw [h]
theorem below_drewN {B : Nat} {a w : World} (h : Below B a w) (n : Nat) : Below B a (w.drewN n):=⟨h.os,h.tape,h.output,h.size,h.block⟩

theorem quiet_add {P : Program} {f : FuncId} {args : Array Value} {w : World} {a n : Nat} {v : Value}
  (h : Calls P f args (w.drewN (a + n)) fun e w' => e = .returned v ∧ ∃ m,w' = (w.drewN (a + n)).drewN m) :
  Calls P f args (w.drewN (a + n)) fun e w' => e = .returned v ∧ ∃ m,w' = w.drewN (a + m) :=
 h.mono fun _ _ ⟨he,m,hm⟩ => ⟨he,n + m,by rw [hm,World.drewN_drewN,Nat.add_assoc]⟩

/-- a fact that no tactic looks into: the walk's own 'contradiction' unfolds what 'Hid' hides (powers!), but not this -/
def Far (p : Prop) : Prop:=True → p
theorem Far.mk {p : Prop} (h : p) : Far p:=fun _ => h
theorem Far.out {p : Prop} (h : Far p) : p:=h trivial

/-- Block g holds just the cells cs of type t, none of them frozen. -/
def Bk (w : World) (g : Nat) (t : TypeId) (cs : List Value) : Prop:=w.heap[g]? = some (.cells cs.toArray t (0,0))
section
variable {w w' : World} {g : Nat} {t : TypeId} {cs : List Value}
theorem Bk.lt (h : Bk w g t cs) : g < w.heap.size:=by
 rcases Nat.lt_or_ge g w.heap.size with hlt | hge
 ·exact hlt
 ·unfold Bk at h;rw [Array.getElem?_eq_none hge] at h;cases h
theorem Bk.cell (h : Bk w g t cs) (i : Nat) {v : Value} (hv : cs[i]? = some v) : w.cell? ⟨g,i,none⟩ = some v:=by
 rw [cell_of_row w g i cs.toArray t (0,0) h,← hv];simp
theorem Bk.frozen (h : Bk w g t cs) (i : Nat) : w.frozen? ⟨g,i,none⟩ = false:=by
 unfold Bk at h
 simp [World.frozen?,h]
theorem Bk.new (w : World) (t : TypeId) (cs : List Value) : Bk (w.alloc (.cells cs.toArray t)) w.heap.size t cs:=heap_alloc_new w _
theorem Bk.new_ {w : World} {t : TypeId} {cs : List Value} {g : Nat} (hg : g = w.heap.size) : Bk (w.alloc (.cells cs.toArray t)) g t cs:=by subst hg;exact Bk.new w t cs
theorem Bk.drew (h : Bk w g t cs) : Bk w.drew g t cs:=h
theorem Bk.drewN (h : Bk w g t cs) (n : Nat) : Bk (w.drewN n) g t cs:=h
theorem Bk.alloc (h : Bk w g t cs) (o : Obj) : Bk (w.alloc o) g t cs:=(Below.heap_alloc w o g h.lt).trans h
theorem Bk.set_ (h : Bk w g t cs) (i : Nat) (u : Value) : Bk (w.setCell ⟨g,i,none⟩ u) g t (cs.set i u):=by
 unfold Bk at h ⊢
 simp [World.setCell,Array.getElem?_modify,h]
theorem Bk.far (h : Bk w g t cs) {p : Addr} (hp : g ≠ p.block) (u : Value) : Bk (w.setCell p u) g t cs:=(Below.heap_setCell w p u g hp).trans h
theorem Bk.below {B : Nat} (h : Bk w g t cs) (hb : Below B w w') (hg : g < B) : Bk w' g t cs:=(hb.block g hg).trans h
end
theorem bkW {w : World} {t : TypeId} {cs : List Value} {g : Nat} (hg : g = w.heap.size) : Bk (w.alloc (.cells cs.toArray t)) g t cs:=Bk.new_ hg
theorem bkA {w : World} {g : Nat} {t : TypeId} {cs : List Value} (h : Bk w g t cs) (o : Obj) : Bk (w.alloc o) g t cs:=h.alloc o
theorem bkD {w : World} {g : Nat} {t : TypeId} {cs : List Value} (h : Bk w g t cs) : Bk w.drew g t cs:=h
theorem bkN {w : World} {g : Nat} {t : TypeId} {cs : List Value} (h : Bk w g t cs) (n : Nat) : Bk (w.drewN n) g t cs:=h
theorem bkF {w : World} {g : Nat} {t : TypeId} {cs : List Value} {p : Addr} (hp : g ≠ p.block) (h : Bk w g t cs) (u : Value) : Bk (w.setCell p u) g t cs:=h.far hp u
theorem bkB {w w' : World} {g : Nat} {t : TypeId} {cs : List Value} {B : Nat} (hb : Below B w w') (hg : g < B) (h : Bk w g t cs) : Bk w' g t cs:=h.below hb hg
theorem blR (B : Nat) (w : World) : Below B w w:=Below.refl B w
theorem blD {B : Nat} {w w' : World} (h : Below B w w') : Below B w w'.drew:=h.drew
theorem blN {B : Nat} {w w' : World} (h : Below B w w') (n : Nat) : Below B w (w'.drewN n):=below_drewN h n
theorem blA {B : Nat} {w w' : World} (hs : B ≤ w'.heap.size) (h : Below B w w') (o : Obj) : Below B w (w'.alloc o):=h.alloc hs o
theorem blS {B : Nat} {w w' : World} {a : Addr} (hs : B ≤ a.block) (h : Below B w w') (v : Value) : Below B w (w'.setCell a v):=h.setCell hs v
theorem blT {B m : Nat} {w w1 w2 : World} (h2 : Below m w1 w2) (hs : B ≤ m) (h : Below B w w1) : Below B w w2:=h.trans (h2.mono hs)
theorem wsA (w : World) (o : Obj) : (w.alloc o).heap.size = w.heap.size + 1:=World.size_alloc ..
theorem wsS (w : World) (a : Addr) (v : Value) : (w.setCell a v).heap.size = w.heap.size:=World.size_setCell ..
theorem wsD (w : World) : w.drew.heap.size = w.heap.size:=World.size_drew ..
theorem wsN (w : World) (n : Nat) : (w.drewN n).heap.size = w.heap.size:=rfl
end Go.Proofs.YtkjecoanlppeaaaGreatDoor



namespace Go.Proofs.YtkjecoanlppeaaaGreatDoor

/-- the i-th word of n -/
def wd (n : Nat) (i : Nat) : Int:=((n / 2 ^ (64 * i) % 2 ^ 64 : Nat) : Int)
theorem wd_nn (n i : Nat) : 0 ≤ wd n i:=by unfold wd;omega
theorem wd_lt (n i : Nat) : wd n i < 18446744073709551616:=by
 unfold wd
 have:=Nat.mod_lt (n / 2 ^ (64 * i)) (show 0 < 2 ^ 64 by decide)
 omega
theorem wd0 (n : Nat) : wd n 0 = ((n % 18446744073709551616 : Nat) : Int):=by unfold wd;simp
theorem wd1 (n : Nat) : wd n 1 = ((n / 18446744073709551616 % 18446744073709551616 : Nat) : Int):=by unfold wd;rfl
theorem wd2 (n : Nat) : wd n 2 = ((n / 340282366920938463463374607431768211456 % 18446744073709551616 : Nat) : Int):=by unfold wd;rfl
theorem wd3 (n : Nat) : wd n 3 = ((n / 6277101735386680763835789423207666416102355444464034512896 % 18446744073709551616 : Nat) : Int):=by unfold wd;rfl
/-- two words are a number below 2^128, and the other way round -/
theorem wd_two {n : Nat} (h : n < 2 ^ 128) : wd n 1 * 18446744073709551616 + wd n 0 = (n : Int):=by
 rw [wd0,wd1];omega
theorem wd_of (n : Nat) (x y : Int) (hx0 : 0 ≤ x) (hx : x < 18446744073709551616) (hy0 : 0 ≤ y) (hy : y < 18446744073709551616) (h : (n : Int) = x * 18446744073709551616 + y) : x = wd n 1 ∧ y = wd n 0:=by
 refine ⟨?_, ?_⟩
 ·rw [wd1];omega
 ·rw [wd0];omega
theorem wd_four {n : Nat} (h : n < 2 ^ 256) : wd n 3 * 6277101735386680763835789423207666416102355444464034512896 + wd n 2 * 340282366920938463463374607431768211456 + wd n 1 * 18446744073709551616 + wd n 0 = (n : Int):=by
 rw [wd0,wd1,wd2,wd3];omega
theorem wd_of4 (n : Nat) (a b c d : Int) (ha0 : 0 ≤ a) (ha : a < 18446744073709551616) (hb0 : 0 ≤ b) (hb : b < 18446744073709551616) (hc0 : 0 ≤ c) (hc : c < 18446744073709551616) (hd0 : 0 ≤ d) (hd : d < 18446744073709551616)
  (h : (n : Int) = d * 6277101735386680763835789423207666416102355444464034512896 + c * 340282366920938463463374607431768211456 + b * 18446744073709551616 + a) : a = wd n 0 ∧ b = wd n 1 ∧ c = wd n 2 ∧ d = wd n 3:=by
 refine ⟨?_, ?_, ?_, ?_⟩
 ·rw [wd0];omega
 ·rw [wd1];omega
 ·rw [wd2];omega
 ·rw [wd3];omega
theorem wd_zero (i : Nat) : wd 0 i = 0:=by unfold wd;simp
/-- equal words, equal numbers -/
theorem wd_inj {n m : Nat} (hn : n < 2 ^ 128) (hm : m < 2 ^ 128) (h1 : wd n 1 = wd m 1) (h0 : wd n 0 = wd m 0) : n = m:=by
 have:=wd_two hn
 have:=wd_two hm
 omega
theorem wd_eq_iff {n m : Nat} (hn : n < 2 ^ 128) (hm : m < 2 ^ 128) : ((wd n 1 == wd m 1) && (wd n 0 == wd m 0)) = decide (n = m):=by
 rw [Bool.eq_iff_iff]
 simp only [Bool.and_eq_true,beq_iff_eq,decide_eq_true_eq]
 constructor
 ·rintro ⟨h1,h0⟩;exact wd_inj hn hm h1 h0
 ·rintro rfl;exact ⟨rfl,rfl⟩
theorem wd_low4 {n : Nat} (hn : n < 2 ^ 256) : (wd n 2 = 0 ∧ wd n 3 = 0) ↔ n < 2 ^ 128:=by
 have h:=wd_four hn
 have a0:=wd_nn n 0
 have a1:=wd_lt n 0
 have b0:=wd_nn n 1
 have b1:=wd_lt n 1
 have c0:=wd_nn n 2
 have d0:=wd_nn n 3
 constructor
 ·rintro ⟨h2,h3⟩;rw [h2,h3] at h;omega
 ·intro hlt;constructor <;> omega
end Go.Proofs.YtkjecoanlppeaaaGreatDoor



namespace Go.Proofs.YtkjecoanlppeaaaGreatDoor
open Go.RowKit

/-- the fields of a value that are no slices -/
structure VS where
 kind : Int
 yes : Bool
 neg : Bool
 coef : Nat
 sc : Int
 text : List UInt8
 day : Int
inductive VD where
 | mk (s : VS) (list : List VD) (names : List (List UInt8))
def VD.s : VD → VS | .mk s _ _ => s
def VD.list : VD → List VD | .mk _ l _ => l
def VD.names : VD → List (List UInt8) | .mk _ _ n => n
def VS.zero : VS:=⟨0,false,false,0,0,[],0⟩
def VD.zero : VD:=.mk VS.zero [] []
/-- the fields' cells -/
def VS.cs (s : VS) : List Value:=[.int .i64 s.kind,.bool s.yes,.bool s.neg,.int .u64 (wd s.coef 1),.int .u64 (wd s.coef 0),.int .i64 s.sc,.string ⟨s.text.toArray⟩,.int .i64 s.day]
@[reducible] def vagg (s : VS) (L N : Value) : Value:=.agg #[.int .i64 s.kind,.bool s.yes,.bool s.neg,.int .u64 (wd s.coef 1),.int .u64 (wd s.coef 0),.int .i64 s.sc,.string ⟨s.text.toArray⟩,.int .i64 s.day,L,N]
def VS.ok (s : VS) : Prop:=s.coef < 2 ^ 128 ∧ s.text.length ≤ 1048576
def vg (l : List VD) (r : Nat) : VD:=l.getD r VD.zero
def ng (l : List (List UInt8)) (r : Nat) : List UInt8:=l.getD r []
mutual
def VD.size : VD → Nat
 | .mk _ l _ => 1 + sizes l
def sizes : List VD → Nat
 | [] => 0
 | x :: r => x.size + sizes r
end
mutual
def VD.deep : VD → Nat
 | .mk _ l _ => deeps l + 1
def deeps : List VD → Nat
 | [] => 0
 | x :: r => max x.deep (deeps r)
end
/-- a thing of the cells cs stands at a place -/
def At (w : World) (b q : Nat) (cs : List Value) : Prop:=∀ j,j < cs.length → w.cell? ⟨b,q + j,none⟩ = cs[j]?
theorem vcell_lt {w : World} {b o : Nat} {u : Value} (h : w.cell? ⟨b,o,none⟩ = some u) : b < w.heap.size:=by
 rcases Nat.lt_or_ge b w.heap.size with hlt | hge
 ·exact hlt
 ·simp [World.cell?,Array.getElem?_eq_none hge] at h
theorem At.below {w w' : World} {b q : Nat} {cs : List Value} (h : At w b q cs) (hb : Below w.heap.size w w') : At w' b q cs:=fun j hj => by
 refine (hb.cell (p:=⟨b,q + j,none⟩) ?_).trans (h j hj)
 have e:=h j hj
 rw [List.getElem?_eq_getElem hj] at e
 exact vcell_lt e
/-- a list of names -/
def Nms (w : World) (N : Value) (l : List (List UInt8)) : Prop:=∃ A C,N = .slice A l.length C ∧ (l.length ≤ 1048576 ∧ l.length ≤ C ∧ C ≤ maxLen) ∧ ∀ r,r < l.length → ∃ b o,A = some ⟨b,o,none⟩ ∧ w.cell? ⟨b,o + r,none⟩ = some (.string ⟨(ng l r).toArray⟩) ∧ (ng l r).length ≤ 1048576
/-- a list of values, each of which R reads -/
def Vls (R : Value → Value → VD → Prop) (w : World) (L : Value) (l : List VD) : Prop:=∃ A C,L = .slice A l.length C ∧ (l.length ≤ 1048576 ∧ l.length ≤ C ∧ C ≤ maxLen) ∧ ∀ r,r < l.length → ∃ b o A1 C1 A2 C2,A = some ⟨b,o,none⟩ ∧ At w b (o + r * 10) ((vg l r).s.cs ++ [.slice A1 (vg l r).list.length C1,.slice A2 (vg l r).names.length C2]) ∧ R (.slice A1 (vg l r).list.length C1) (.slice A2 (vg l r).names.length C2) (vg l r)
/-- a value at its two slices -/
def VR : Nat → World → Value → Value → VD → Prop
 | 0,_,_,_,_ => False
 | n + 1,w,L,N,d => d.s.ok ∧ Vls (VR n w) w L d.list ∧ Nms w N d.names
theorem Nms.below {w w' : World} {N : Value} {l : List (List UInt8)} (h : Nms w N l) (hb : Below w.heap.size w w') : Nms w' N l:=by
 obtain ⟨A,C,h1,h2,h3⟩:=h
 refine ⟨A,C,h1,h2,fun r hr => ?_⟩
 obtain ⟨b,o,h4,h5,h6⟩:=h3 r hr
 exact ⟨b,o,h4,(hb.cell (p:=⟨b,o + r,none⟩) (vcell_lt h5)).trans h5,h6⟩
theorem Vls.below {R R' : Value → Value → VD → Prop} {w w' : World} {L : Value} {l : List VD} (h : Vls R w L l) (hb : Below w.heap.size w w') (hR : ∀ L N d,R L N d → R' L N d) : Vls R' w' L l:=by
 obtain ⟨A,C,h1,h2,h3⟩:=h
 refine ⟨A,C,h1,h2,fun r hr => ?_⟩
 obtain ⟨b,o,A1,C1,A2,C2,h4,h5,h6⟩:=h3 r hr
 exact ⟨b,o,A1,C1,A2,C2,h4,h5.below hb,hR _ _ _ h6⟩
theorem VR.below {w w' : World} : ∀ {n : Nat} {L N : Value} {d : VD},VR n w L N d → Below w.heap.size w w' → VR n w' L N d
 | 0,_,_,_,h,_ => h
 | n + 1,_,_,_,⟨h1,h2,h3⟩,hb => ⟨h1,h2.below hb (fun _ _ _ h => h.below hb),h3.below hb⟩
theorem At.val {w : World} {b q : Nat} {s : VS} {L N : Value} (h : At w b q (s.cs ++ [L,N])) : w.cell? ⟨b,q,none⟩ = some (.int .i64 s.kind) ∧ w.cell? ⟨b,q + 1,none⟩ = some (.bool s.yes) ∧ w.cell? ⟨b,q + 2,none⟩ = some (.bool s.neg) ∧ w.cell? ⟨b,q + 3,none⟩ = some (.int .u64 (wd s.coef 1)) ∧
  w.cell? ⟨b,q + 4,none⟩ = some (.int .u64 (wd s.coef 0)) ∧ w.cell? ⟨b,q + 5,none⟩ = some (.int .i64 s.sc) ∧ w.cell? ⟨b,q + 6,none⟩ = some (.string ⟨s.text.toArray⟩) ∧ w.cell? ⟨b,q + 7,none⟩ = some (.int .i64 s.day) ∧ w.cell? ⟨b,q + 8,none⟩ = some L ∧ w.cell? ⟨b,q + 9,none⟩ = some N:=by
 have hl : (s.cs ++ [L,N]).length = 10:=rfl
 refine ⟨h 0 ?_,h 1 ?_,h 2 ?_,h 3 ?_,h 4 ?_,h 5 ?_,h 6 ?_,h 7 ?_,h 8 ?_,h 9 ?_⟩ <;> rw [hl] <;> decide
theorem Vls.at {R : Value → Value → VD → Prop} {w : World} {l : List VD} {A : Option Addr} {n C : Nat} (h : Vls R w (.slice A n C) l) {r : Nat} (hr : r < l.length) : ∃ b o A1 C1 A2 C2,A = some ⟨b,o,none⟩ ∧ At w b (o + r * 10) ((vg l r).s.cs ++ [.slice A1 (vg l r).list.length C1,.slice A2 (vg l r).names.length C2]) ∧ R (.slice A1 (vg l r).list.length C1) (.slice A2 (vg l r).names.length C2) (vg l r):=by
 obtain ⟨A',C',h1,_,h3⟩:=h
 injection h1 with e1 e2 e3
 subst e1
 exact h3 r hr
theorem Vls.is {R : Value → Value → VD → Prop} {w : World} {l : List VD} {L : Value} (h : Vls R w L l) : ∃ A C,L = .slice A l.length C ∧ l.length ≤ 1048576:=by
 obtain ⟨A',C',h1,h2,_⟩:=h
 exact ⟨A',C',h1,h2.1⟩
theorem Nms.is {w : World} {l : List (List UInt8)} {L : Value} (h : Nms w L l) : ∃ A C,L = .slice A l.length C ∧ l.length ≤ 1048576:=by
 obtain ⟨A',C',h1,h2,_⟩:=h
 exact ⟨A',C',h1,h2.1⟩
theorem Nms.at {w : World} {l : List (List UInt8)} {A : Option Addr} {n C : Nat} (h : Nms w (.slice A n C) l) {r : Nat} (hr : r < l.length) : ∃ b o,A = some ⟨b,o,none⟩ ∧ w.cell? ⟨b,o + r,none⟩ = some (.string ⟨(ng l r).toArray⟩) ∧ (ng l r).length ≤ 1048576:=by
 obtain ⟨A',C',h1,_,h3⟩:=h
 injection h1 with e1 e2 e3
 subst e1
 exact h3 r hr
theorem sizes_append : ∀ (a b : List VD),sizes (a ++ b) = sizes a + sizes b
 | [],b => by simp [sizes]
 | x :: r,b => by rw [List.cons_append,sizes,sizes,sizes_append r b];omega
theorem deeps_append : ∀ (a b : List VD),deeps (a ++ b) = max (deeps a) (deeps b)
 | [],b => by simp [deeps]
 | x :: r,b => by rw [List.cons_append,deeps,deeps,deeps_append r b];omega
theorem take_vg {l : List VD} {t : Nat} (h : t < l.length) : l.take (t + 1) = l.take t ++ [vg l t]:=by
 rw [List.take_succ_eq_append_getElem h]
 unfold vg
 rw [List.getD_eq_getElem?_getD,List.getElem?_eq_getElem h];rfl
theorem sizes_take {l : List VD} {t : Nat} (h : t < l.length) : sizes (l.take (t + 1)) = sizes (l.take t) + (vg l t).size:=by
 rw [take_vg h,sizes_append];simp [sizes]
theorem deeps_take {l : List VD} {t : Nat} (h : t < l.length) : deeps (l.take (t + 1)) = max (deeps (l.take t)) (vg l t).deep:=by
 rw [take_vg h,deeps_append];simp [deeps]
theorem sizes_le {l : List VD} (t : Nat) : sizes (l.take t) ≤ sizes l:=by
 have h:=sizes_append (l.take t) (l.drop t)
 rw [List.take_append_drop] at h
 omega
theorem VD.size_eq (d : VD) : d.size = 1 + sizes d.list:=by cases d;rfl
theorem VD.deep_eq (d : VD) : d.deep = deeps d.list + 1:=by cases d;rfl
theorem size_pos (d : VD) : 1 ≤ d.size:=by rw [VD.size_eq];omega
theorem vg_size {l : List VD} {t : Nat} (h : t < l.length) : (vg l t).size ≤ sizes l:=by
 have h1:=sizes_take h
 have h2:=sizes_le (l:=l) (t + 1)
 omega
mutual
theorem deep_size : ∀ d : VD,d.deep ≤ d.size
 | .mk _ l _ => by rw [VD.deep,VD.size];have:=deeps_sizes l;omega
theorem deeps_sizes : ∀ l : List VD,deeps l ≤ sizes l
 | [] => Nat.le_refl _
 | x :: r => by rw [deeps,sizes];have:=deep_size x;have:=deeps_sizes r;omega
end
theorem Nms.caps {w : World} {l : List (List UInt8)} {A : Option Addr} {n C : Nat} (h : Nms w (.slice A n C) l) : l.length ≤ C ∧ C ≤ 9223372036854775807:=by
 obtain ⟨A',C',h1,h2,_⟩:=h
 injection h1 with e1 e2 e3
 subst e3
 exact h2.2
theorem Vls.caps {R : Value → Value → VD → Prop} {w : World} {l : List VD} {A : Option Addr} {n C : Nat} (h : Vls R w (.slice A n C) l) : l.length ≤ C ∧ C ≤ 9223372036854775807:=by
 obtain ⟨A',C',h1,h2,_⟩:=h
 injection h1 with e1 e2 e3
 subst e3
 exact h2.2
/-- counted up to most and one more -/
def cnt (s : Nat) (most : Int) : Int:=if (s : Int) ≤ most then s else most + 1
end Go.Proofs.YtkjecoanlppeaaaGreatDoor



namespace Go.Proofs.YtkjecoanlppeaaaGreatDoor
open Go.RowKit
theorem wp_named {F : World → Prop} {w : World} (R : World → Prop) (hR : R w) (h : ∀ W,R W → F W) : F w:=h w hR
end Go.Proofs.YtkjecoanlppeaaaGreatDoor



namespace Go.Proofs.YtkjecoanlppeaaaGreatDoor
open Go.RowKit

theorem cnt_in {s : Nat} {m : Int} (h : (s : Int) ≤ m) : cnt s m = s:=if_pos h
theorem cnt_out {s : Nat} {m : Int} (h : m < s) : cnt s m = m + 1:=if_neg (by omega)
theorem cnt_le {s : Nat} {m : Int} (h : 0 ≤ m) (h1 : 1 ≤ s) : 1 ≤ cnt s m ∧ cnt s m ≤ m + 1:=by unfold cnt;split <;> omega
def CountOf (R : World → Value → Value → VD → Prop) : Prop:=∀ (x : VD) (L N : Value) (most : Int) (w : World),0 ≤ most → most ≤ 1000000 → R w L N x →
 Calls Tryz.prog 69 #[vagg x.s L N,.int .i64 most] w fun e w' => e = .returned (.int .i64 (cnt x.size most)) ∧ Below w.heap.size w w'
set_option maxHeartbeats 1000000 in
theorem count_step (R : World → Value → Value → VD → Prop) (hR : ∀ w w' L N x,R w L N x → Below w.heap.size w w' → R w' L N x) (H : CountOf R)
  (s : VS) (l : List VD) (L N : Value) (most : Int) (w : World) (h0 : 0 ≤ most) (h1 : most ≤ 1000000) (hv : Vls (R w) w L l) :
  Calls Tryz.prog 69 #[vagg s L N,.int .i64 most] w fun e w' => e = .returned (.int .i64 (cnt (1 + sizes l) most)) ∧ Below w.heap.size w w':=by
 have HV:=Lib.hid hv
 have HH:=Lib.hid H
 have HR:=Lib.hid hR
 obtain ⟨A,C,rfl,hl⟩:=hv.is
 clear hv H hR
 obtain ⟨z,hz⟩ : ∃ z,z = cnt (1 + sizes l) most:=⟨_,rfl⟩
 rw [← hz]
 have HZ:=Lib.hid hz
 clear hz
 go_enter Tryz.func69,Tryz.ntmps69
 go_wp2_with fail
 go_loopg [5,11] l.length (fun k s5 s11 wr => ∃ (t : Nat) (n : Int),k + t = l.length ∧ s11 = .int .i64 t ∧ s5 = .int .i64 n ∧ Hid (n = cnt (1 + sizes (l.take t)) most) ∧ 1 ≤ n ∧ n ≤ most + 1 ∧ w.heap.size < wr.heap.size ∧ Below w.heap.size w wr)
 case atStart => exact ⟨0,1,by omega,rfl,rfl,Lib.hid (by rw [List.take_zero];unfold cnt sizes;split <;> omega),by omega,by omega,by go_size,by (repeat' first|(with_reducible first|exact blR _ _|assumption|refine blD ?_|refine blN ?_ _)|((with_reducible first|refine blA ?_ ?_ _|refine blS ?_ ?_ _|refine blT (by assumption) ?_ ?_);focus (go_size;done)))⟩
 case round =>
  obtain ⟨t,n,hk,rfl,rfl,HN,n1,n2,hsz,hbel⟩:=hrel
  have HK:=Lib.hid hk
  have htn : t ≤ l.length:=by omega
  clear hk
  by_cases hlt : t < l.length
  ·obtain ⟨b,o,A1,C1,A2,C2,rfl,hat,hx⟩:=(HV.out.below hbel (fun _ _ _ h => HR.out _ _ _ _ _ h hbel)).at hlt
   obtain ⟨a0,a1,a2,a3,a4,a5,a6,a7,a8,a9⟩:=hat.val
   have lb:=vcell_lt a0
   have HST:=Lib.hid (sizes_take hlt)
   have HPOS:=Lib.hid (size_pos (vg l t))
   have HSL:=Lib.hid (sizes_le (l:=l) (t + 1))
   obtain ⟨x,hxx⟩ : ∃ x,x = vg l t:=⟨_,rfl⟩
   rw [← hxx] at hx a0 a1 a2 a3 a4 a5 a6 a7 a8 a9 HST HPOS
   have HX:=Lib.hid hx
   obtain ⟨n1',hn1⟩ : ∃ n1',n1' = x.list.length:=⟨_,rfl⟩
   obtain ⟨n2',hn2⟩ : ∃ n2',n2' = x.names.length:=⟨_,rfl⟩
   rw [← hn1,← hn2] at HX
   rw [← hn1] at a8
   rw [← hn2] at a9
   clear hat hx hxx hn1 hn2
   by_cases hm : most < n
   ·have hz : z = n:=by
     have e1:=HN.out;have e2:=HST.out;have e3:=HSL.out;have e4:=HZ.out
     have : ¬ ((1 + sizes (l.take t) : Nat) : Int) ≤ most:=fun q => by rw [cnt_in q] at e1;omega
     rw [e4,cnt_out (by omega)];omega
    subst hz
    go_wp2_with fail
    go_ret
    exact ⟨rfl,by (repeat' first|(with_reducible first|exact blR _ _|assumption|refine blD ?_|refine blN ?_ _)|((with_reducible first|refine blA ?_ ?_ _|refine blS ?_ ?_ _|refine blT (by assumption) ?_ ?_);focus (go_size;done)))⟩
   ·have hm' : n ≤ most:=by omega
    have HC:=Lib.hid (fun W hW => HH.out x (.slice A1 n1' C1) (.slice A2 n2' C2) (most - n) W (by omega) (by omega) hW)
    have HQ : Hid (n + cnt x.size (most - n) = cnt (1 + sizes (l.take (t + 1))) most):=Lib.hid (by
     have e1:=HN.out;have e2:=HST.out
     have : ((1 + sizes (l.take t) : Nat) : Int) ≤ most:=by
      rcases Int.lt_or_le most ((1 + sizes (l.take t) : Nat) : Int) with q | q
      ·rw [cnt_out q] at e1;omega
      ·exact q
     rw [cnt_in this] at e1
     rw [e2]
     unfold cnt
     split <;> split <;> omega)
    have hcl:=cnt_le (s:=x.size) (m:=most - n) (by omega) HPOS.out
    obtain ⟨q,hq⟩ : ∃ q,q = cnt x.size (most - n):=⟨_,rfl⟩
    rw [← hq] at HC HQ hcl
    obtain ⟨hc1,hc2⟩:=hcl
    clear hm hq
    go_wp2_with fail
    refine (HC.out _ (HR.out _ _ _ _ _ HX.out (by (repeat' first|(with_reducible first|exact blR _ _|assumption|refine blD ?_|refine blN ?_ _)|((with_reducible first|refine blA ?_ ?_ _|refine blS ?_ ?_ _|refine blT (by assumption) ?_ ?_);focus (go_size;done)))))).mono ?_
    rintro _ w2 ⟨rfl,hb2⟩;have hb2s:=hb2.size;(try simp only [wsA,wsS,wsD,wsN] at hb2s);obtain ⟨hb2c,hb2f⟩:=bcell hb2;(try have : w.heap.size < w2.heap.size:=by omega);(try have : w.heap.size + 1 < w2.heap.size:=by omega);(try have : w.heap.size + 1 + 1 < w2.heap.size:=by omega);(try have : w.heap.size + 1 + 1 + 1 < w2.heap.size:=by omega)
    go_wp2_with fail
    go_roundg (gk - 1)
    case measure => have:=HK.out;omega
    case rel => exact ⟨t + 1,n + q,by have:=HK.out;omega,by go_num,rfl,HQ,by omega,by omega,by omega,by (repeat' first|(with_reducible first|exact blR _ _|assumption|refine blD ?_|refine blN ?_ _)|((with_reducible first|refine blA ?_ ?_ _|refine blS ?_ ?_ _|refine blT (by assumption) ?_ ?_);focus (go_size;done)))⟩
  ·obtain rfl : t = l.length:=by omega
   have hz : z = n:=by have:=HN.out;rw [List.take_length] at this;rw [this,HZ.out]
   subst hz
   go_wp2_with fail
   go_ret
   exact ⟨rfl,by (repeat' first|(with_reducible first|exact blR _ _|assumption|refine blD ?_|refine blN ?_ _)|((with_reducible first|refine blA ?_ ?_ _|refine blS ?_ ?_ _|refine blT (by assumption) ?_ ?_);focus (go_size;done)))⟩
theorem count_any : ∀ n,CountOf (VR n)
 | 0,_,_,_,_,_,_,_,h => h.elim
 | n + 1,x,L,N,most,w,h0,h1,h => by
  rw [VD.size_eq]
  exact count_step (VR n) (fun _ _ _ _ _ h hb => h.below hb) (count_any n) x.s x.list L N most w h0 h1 h.2.1
end Go.Proofs.YtkjecoanlppeaaaGreatDoor



namespace Go.Proofs.YtkjecoanlppeaaaGreatDoor
open Go.RowKit

/-- a value at its two slices, at whatever depth -/
def RV (w : World) (L N : Value) (d : VD) : Prop:=∃ n,VR n w L N d
theorem RV.below {w w' : World} {L N : Value} {d : VD} (h : RV w L N d) (hb : Below w.heap.size w w') : RV w' L N d:=by
 obtain ⟨n,h⟩:=h
 exact ⟨n,h.below hb⟩
theorem Vls.imp {R R' : Value → Value → VD → Prop} {w : World} {L : Value} {l : List VD} (h : Vls R w L l) (hR : ∀ L N d,R L N d → R' L N d) : Vls R' w L l:=h.below (Below.refl _ _) hR
theorem RV.list {w : World} {L N : Value} {d : VD} (h : RV w L N d) : d.s.ok ∧ Vls (RV w) w L d.list ∧ Nms w N d.names:=by
 obtain ⟨n,h⟩:=h
 cases n with
 | zero => exact h.elim
 | succ n => exact ⟨h.1,h.2.1.imp (fun _ _ _ h => ⟨n,h⟩),h.2.2⟩
theorem Vls.kept {w w' : World} {L : Value} {l : List VD} (h : Vls (RV w) w L l) (hb : Below w.heap.size w w') : Vls (RV w') w' L l:=h.below hb (fun _ _ _ h => h.below hb)
/-- lists that are still to be counted -/
inductive Stk (w0 : World) : List Value → List (List VD) → Prop
 | nil : Stk w0 [] []
 | snoc {vs : List Value} {td : List (List VD)} {L : Value} {l : List VD} : Stk w0 vs td → Vls (RV w0) w0 L l → l ≠ [] → Stk w0 (vs ++ [L]) (td ++ [l])
theorem Stk.cases {w0 : World} {vs : List Value} {td : List (List VD)} (h : Stk w0 vs td) : (vs = [] ∧ td = []) ∨ ∃ vs' L td' l,vs = vs' ++ [L] ∧ td = td' ++ [l] ∧ Stk w0 vs' td' ∧ Vls (RV w0) w0 L l ∧ l ≠ []:=by
 cases h with
 | nil => exact .inl ⟨rfl,rfl⟩
 | snoc a b c => exact .inr ⟨_,_,_,_,rfl,rfl,a,b,c⟩
def tots : List (List VD) → Nat
 | [] => 0
 | l :: r => sizes l + tots r
theorem tots_snoc (td : List (List VD)) (l : List VD) : tots (td ++ [l]) = tots td + sizes l:=by
 induction td with
 | nil => simp [tots]
 | cons x r ih => rw [List.cons_append,tots,tots,ih];omega
theorem tots_len {w0 : World} {vs : List Value} {td : List (List VD)} (h : Stk w0 vs td) : td.length ≤ tots td:=by
 induction h with
 | nil => exact Nat.le_refl _
 | @snoc vs td L l _ _ c ih =>
  rw [tots_snoc,List.length_append,List.length_singleton]
  have : 1 ≤ sizes l:=by
   cases l with
   | nil => exact absurd rfl c
   | cons x r => rw [sizes];have:=size_pos x;omega
  omega
theorem sizes_drop {l : List VD} {t : Nat} (h : t < l.length) : sizes (l.drop t) = (vg l t).size + sizes (l.drop (t + 1)):=by
 rw [List.drop_eq_getElem_cons h,sizes]
 unfold vg
 rw [List.getD_eq_getElem?_getD,List.getElem?_eq_getElem h];rfl
theorem own_pop {w : World} {base : Nat} {E : TypeId} {v x : Value} {n : Nat} {xs : List Value} (h : w.ownsRow base E 1 v (n + 1) (xs ++ [x])) :
  ∃ g cap,v = .slice (some ⟨g,0,none⟩) (n + 1) cap ∧ base ≤ g ∧ n + 1 ≤ cap ∧ cap ≤ maxLen ∧ w.cell? ⟨g,n,none⟩ = some x ∧ w.ownsRow base E 1 (.slice (some ⟨g,0,none⟩) n cap) n xs:=by
 obtain ⟨hl,hc⟩:=h
 rcases hc with ⟨_,h0⟩ | ⟨g,cap,cur,rfl,hb,hg,h1,h2,h3,h4⟩
 ·omega
 ·have hlx : xs.length = n:=by simp at hl;omega
  rw [Nat.mul_one] at h4
  refine ⟨g,cap,rfl,hb,h1,h2, ?_,by omega,.inr ⟨g,cap,cur,rfl,hb,hg,by omega,h2,h3, ?_⟩⟩
  ·have e : cur.toList[n]? = some x:=by
    have:=congrArg (fun l => l[n]?) h4
    simp only [List.getElem?_take_of_lt (show n < n + 1 by omega)] at this
    rw [this,List.getElem?_append_right (by omega),hlx,Nat.sub_self];rfl
   rw [cell_of_row w g n cur E (0,0) hg,← e];simp
  ·rw [Nat.mul_one]
   have:=congrArg (List.take n) h4
   have e2 : (xs ++ [x]).take n = xs:=by rw [List.take_append_of_le_length (by omega),List.take_of_length_le (by omega)]
   rw [List.take_take,Nat.min_eq_left (by omega),e2] at this
   exact this
theorem own_nil {w : World} {base : Nat} {E : TypeId} {v : Value} {xs : List Value} (h : w.ownsRow base E 1 v 0 xs) : ∃ A C,v = .slice A 0 C:=by
 rcases h.2 with ⟨rfl,_⟩ | ⟨g,cap,cur,rfl,_⟩
 ·exact ⟨_,_,rfl⟩
 ·exact ⟨_,_,rfl⟩
theorem info_vals : (Tryz.prog.info? 24).map (fun i => (i.zero,i.size,i.bytes)) = some (some (.slice none 0 0),1,24):=by kernel_rfl
/-- a list is pushed -/
theorem wpList_pushV {w : World} {ops : Array Oper} {rest : List Oper} {o : Oper} {a : Act} {Q : Exit → Act → World → Prop} (hgd : o.guard = none) (s x : Operand)
  (ho : o.op = .call { callee:=.builtin .append,args:=#[s,x],argTypes:=#[23,23] })
  (base : Nat) (v : Value) (n : Nat) (vs : List Value) (hs : a.eval s = v) (hown : w.ownsRow base 24 1 v n vs)
  (b : Nat) (A : Option Addr) (m c : Nat) (hx : a.eval x = .slice (some ⟨b,0,none⟩) 1 1) (hd : w.cell? ⟨b,0,none⟩ = some (.slice A m c)) (hlen : n ≤ 2000000) (hbase : base ≤ w.heap.size)
  (h : ∀ v' w',w'.ownsRow base 24 1 v' (n + 1) (vs ++ [.slice A m c]) → w.grownBy w' v.ownBlock → wpList Tryz.prog ops Q rest (a.put o.dst v') w') : wpList Tryz.prog ops Q (o :: rest) a w:=by
 obtain ⟨i0,hi0,hz0,hz1,hz2⟩:=info_parts info_vals
 refine wpList_append_own w hgd s x 23 ho base 24 i0 (.slice none 0 0) 1 24 Tryz.underlying23 hi0 hz0 hz1 hz2 rfl (by decide) v n vs hs hown ⟨b,0,none⟩ 1 1 [.slice A m c] hx rfl ?_ ?_ (by unfold maxLen;omega) (by omega) hbase ?_
 ·intro j u hj
  match j with
  | 0 => simp at hj;subst hj;exact hd
  | j + 1 => simp at hj
 ·intro u hu
  rw [List.mem_singleton.1 hu];rfl
 ·intro v' w' h1 h2 _
  exact h v' w' h1 h2
theorem below_pushV {a w w' : World} {B : Nat} {E : TypeId} {v : Value} {n : Nat} {xs : List Value} (h : Below B a w) (hown : w.ownsRow B E 1 v n xs) (hg : w.grownBy w' v.ownBlock) (hB : B ≤ w.heap.size) : Below B a w' :=
 h.grown hg hB fun k hk => (hown.lt k hk).1
def vobj (s : VS) (L N : Value) : Obj:=.cells #[.int .i64 s.kind,.bool s.yes,.bool s.neg,.int .u64 (wd s.coef 1),.int .u64 (wd s.coef 0),.int .i64 s.sc,.string ⟨s.text.toArray⟩,.int .i64 s.day,L,N] 34
/-- the list of the one value, as it is laid at the start -/
theorem vls_one {w : World} {d : VD} {A : Option Addr} {C : Nat} {A2 : Option Addr} {C2 : Nat} (h : RV w (.slice A d.list.length C) (.slice A2 d.names.length C2) d) :
  Vls (RV (w.alloc (vobj d.s (.slice A d.list.length C) (.slice A2 d.names.length C2)))) (w.alloc (vobj d.s (.slice A d.list.length C) (.slice A2 d.names.length C2))) (.slice (some ⟨w.heap.size,0,none⟩) 1 1) [d]:=by
 have hb : Below w.heap.size w (w.alloc (vobj d.s (.slice A d.list.length C) (.slice A2 d.names.length C2))):=(Below.refl _ _).alloc (Nat.le_refl _) _
 refine ⟨_,_,rfl,⟨by simp,by simp,by unfold maxLen;simp⟩,fun r hr => ?_⟩
 obtain rfl : r = 0:=by simp at hr;omega
 refine ⟨w.heap.size,0,A,C,A2,C2,rfl,fun j hj => ?_,h.below hb⟩
 have:=Bk.new w 34 (d.s.cs ++ [.slice A d.list.length C,.slice A2 d.names.length C2])
 rw [Nat.zero_mul,Nat.zero_add]
 have e : vg [d] 0 = d:=rfl
 rw [e] at hj ⊢
 have hc:=this.cell j (List.getElem?_eq_getElem hj)
 rw [List.getElem?_eq_getElem hj]
 exact hc
end Go.Proofs.YtkjecoanlppeaaaGreatDoor



namespace Go.Proofs.YtkjecoanlppeaaaGreatDoor
open Go.RowKit

def lg (ls : List (List VD)) (r : Nat) : List VD:=ls.getD r []
/-- rows of values -/
def Lls (w : World) (v : Value) (ls : List (List VD)) : Prop:=∃ A C,v = .slice A ls.length C ∧ (ls.length ≤ 1048576 ∧ ls.length ≤ C ∧ C ≤ maxLen) ∧ ∀ r,r < ls.length → ∃ b o B D,A = some ⟨b,o,none⟩ ∧ w.cell? ⟨b,o + r,none⟩ = some (.slice B (lg ls r).length D) ∧ Vls (RV w) w (.slice B (lg ls r).length D) (lg ls r)
theorem Lls.below {w w' : World} {v : Value} {ls : List (List VD)} (h : Lls w v ls) (hb : Below w.heap.size w w') : Lls w' v ls:=by
 obtain ⟨A,C,h1,h2,h3⟩:=h
 refine ⟨A,C,h1,h2,fun r hr => ?_⟩
 obtain ⟨b,o,B,D,h4,h5,h6⟩:=h3 r hr
 exact ⟨b,o,B,D,h4,(hb.cell (p:=⟨b,o + r,none⟩) (vcell_lt h5)).trans h5,h6.kept hb⟩
theorem Lls.is {w : World} {v : Value} {ls : List (List VD)} (h : Lls w v ls) : ∃ A C,v = .slice A ls.length C ∧ ls.length ≤ 1048576 ∧ ls.length ≤ C ∧ C ≤ maxLen:=by
 obtain ⟨A,C,h1,h2,_⟩:=h
 exact ⟨A,C,h1,h2⟩
theorem Lls.at {w : World} {ls : List (List VD)} {A : Option Addr} {n C : Nat} (h : Lls w (.slice A n C) ls) {r : Nat} (hr : r < ls.length) : ∃ b o B D,A = some ⟨b,o,none⟩ ∧ w.cell? ⟨b,o + r,none⟩ = some (.slice B (lg ls r).length D) ∧ Vls (RV w) w (.slice B (lg ls r).length D) (lg ls r):=by
 obtain ⟨A',C',h1,_,h3⟩:=h
 injection h1 with e1 e2 e3
 subst e1
 exact h3 r hr
/-- the same value in every part -/
noncomputable def sameB (a b : VD) : Bool:=@decide (a = b) (Classical.propDecidable _)
theorem sameB_iff {a b : VD} : sameB a b = true ↔ a = b:=by unfold sameB;exact @decide_eq_true_iff _ (Classical.propDecidable _)
theorem sameB_self (a : VD) : sameB a a = true:=sameB_iff.2 rfl
/-- where a value stands in a list; its length: nowhere -/
noncomputable def posF (x : VD) : List VD → Nat
 | [] => 0
 | y :: r => if sameB y x = true then 0 else posF x r + 1
theorem posF_le (x : VD) : ∀ l,posF x l ≤ l.length
 | [] => Nat.le_refl _
 | y :: r => by
  unfold posF
  split
  ·omega
  ·have:=posF_le x r;simp;omega
theorem posF_hit {x : VD} : ∀ {l : List VD} {k : Nat},k < l.length → sameB (vg l k) x = true → (∀ j,j < k → sameB (vg l j) x = false) → posF x l = k
 | [],k,hk,_,_ => absurd hk (Nat.not_lt_zero _)
 | y :: r,0,_,h,_ => by
  unfold posF
  have : sameB y x = true:=h
  rw [if_pos this]
 | y :: r,k + 1,hk,h,hn => by
  have h0 : sameB y x = false:=hn 0 (by omega)
  unfold posF
  rw [if_neg (by rw [h0];simp)]
  rw [posF_hit (l:=r) (k:=k) (by simpa using hk) h (fun j hj => hn (j + 1) (by omega))]
theorem posF_none {x : VD} : ∀ {l : List VD},(∀ j,j < l.length → sameB (vg l j) x = false) → posF x l = l.length
 | [],_ => rfl
 | y :: r,h => by
  have h0 : sameB y x = false:=h 0 (by simp)
  unfold posF
  rw [if_neg (by rw [h0];simp),posF_none (l:=r) (fun j hj => h (j + 1) (by simpa using hj))];rfl
/-- the ranks of a row by the first columns -/
noncomputable def rankT (order : List (List VD)) (row : List VD) : Nat → List Nat
 | 0 => []
 | i + 1 => rankT order row i ++ (if lg order i = [] then [] else [posF (vg row i) (lg order i)])
noncomputable def rankF (order : List (List VD)) (row : List VD) : List Nat:=rankT order row order.length
theorem rankT_len (order : List (List VD)) (r1 r2 : List VD) : ∀ i,(rankT order r1 i).length = (rankT order r2 i).length
 | 0 => rfl
 | i + 1 => by
  unfold rankT
  rw [List.length_append,List.length_append,rankT_len order r1 r2 i]
  split <;> rfl
theorem rankT_le (order : List (List VD)) (row : List VD) : ∀ i,(rankT order row i).length ≤ i
 | 0 => Nat.le_refl _
 | i + 1 => by
  unfold rankT
  rw [List.length_append]
  have:=rankT_le order row i
  split <;> simp <;> omega
/-- one rank against another -/
def cmpL : List Nat → List Nat → Int
 | [],[] => 0
 | [],_ :: _ => -1
 | _ :: _,[] => 1
 | a :: x,b :: y => if a < b then -1 else if b < a then 1 else cmpL x y
theorem cmpL_self : ∀ l,cmpL l l = 0
 | [] => rfl
 | a :: x => by unfold cmpL;rw [if_neg (by omega),if_neg (by omega)];exact cmpL_self x
theorem cmpL_zero : ∀ {a b : List Nat},cmpL a b = 0 → a = b
 | [],[],_ => rfl
 | [],_ :: _,h => by simp [cmpL] at h
 | _ :: _,[],h => by simp [cmpL] at h
 | a :: x,b :: y,h => by
  unfold cmpL at h
  split at h
  ·cases h
  ·split at h
   ·cases h
   ·have : a = b:=by omega
    rw [this,cmpL_zero h]
theorem cmpL_neg : ∀ (a b : List Nat),cmpL a b = - cmpL b a
 | [],[] => rfl
 | [],_ :: _ => rfl
 | _ :: _,[] => rfl
 | a :: x,b :: y => by
  unfold cmpL
  by_cases h1 : a < b
  ·rw [if_pos h1,if_neg (by omega),if_pos h1]
  ·rw [if_neg h1]
   by_cases h2 : b < a
   ·rw [if_pos h2,if_pos h2];rfl
   ·rw [if_neg h2,if_neg h2,if_neg h1];exact cmpL_neg x y
theorem cmpL_trans : ∀ {a b c : List Nat},cmpL a b < 0 → cmpL b c < 0 → cmpL a c < 0
 | [],[],_,h,_ => by simp [cmpL] at h
 | [],_ :: _,[],_,h => by simp [cmpL] at h
 | [],_ :: _,_ :: _,_,_ => by simp [cmpL]
 | _ :: _,[],_,h,_ => by simp [cmpL] at h
 | _ :: _,_ :: _,[],_,h => by simp [cmpL] at h
 | a :: x,b :: y,c :: z,h1,h2 => by
  unfold cmpL at h1 h2 ⊢
  by_cases k1 : a < b
  ·by_cases k2 : b < c
   ·rw [if_pos (by omega)];decide
   ·rw [if_neg k2] at h2
    by_cases k3 : c < b
    ·rw [if_pos k3] at h2;exact absurd h2 (by decide)
    ·rw [if_pos (by omega)];decide
  ·rw [if_neg k1] at h1
   by_cases k3 : b < a
   ·rw [if_pos k3] at h1;exact absurd h1 (by decide)
   ·rw [if_neg k3] at h1
    by_cases k2 : b < c
    ·rw [if_pos (by omega)];decide
    ·rw [if_neg k2] at h2
     by_cases k4 : c < b
     ·rw [if_pos k4] at h2;exact absurd h2 (by decide)
     ·rw [if_neg k4] at h2
      rw [if_neg (by omega),if_neg (by omega)]
      exact cmpL_trans h1 h2
/-- rows by rank, then by place -/
def cfR (rk : Nat → List Nat) (i j : Nat) : Int:=if cmpL (rk i) (rk j) ≠ 0 then cmpL (rk i) (rk j) else if i < j then -1 else if j < i then 1 else 0
theorem cfR_self (rk : Nat → List Nat) (i : Nat) : cfR rk i i = 0:=by unfold cfR;rw [cmpL_self];simp
theorem cfR_neg (rk : Nat → List Nat) (i j : Nat) : cfR rk i j = - cfR rk j i:=by
 unfold cfR
 rw [cmpL_neg (rk i) (rk j)]
 by_cases h : cmpL (rk j) (rk i) = 0
 ·rw [h]
  simp only [Int.neg_zero,ne_eq,not_true_eq_false,if_false]
  by_cases h1 : i < j
  ·rw [if_pos h1,if_neg (by omega),if_pos h1]
  ·by_cases h2 : j < i
   ·rw [if_neg h1,if_pos h2,if_pos h2];rfl
   ·rw [if_neg h1,if_neg h2,if_neg h2,if_neg h1];rfl
 ·rw [if_pos (by omega),if_pos h]
theorem cfR_zero {rk : Nat → List Nat} {i j : Nat} (h : cfR rk i j = 0) : i = j:=by
 unfold cfR at h
 split at h
 ·rename_i h1;exact absurd h h1
 ·split at h
  ·cases h
  ·split at h
   ·cases h
   ·omega
theorem cfR_trans {rk : Nat → List Nat} {i j k : Nat} (h1 : cfR rk i j < 0) (h2 : cfR rk j k < 0) : cfR rk i k < 0:=by
 unfold cfR at h1 h2 ⊢
 by_cases a : cmpL (rk i) (rk j) = 0
 ·have e:=cmpL_zero a
  rw [if_neg (by simpa using a)] at h1
  have hij : i < j:=by
   by_cases q : i < j
   ·exact q
   ·rw [if_neg q] at h1
    by_cases q2 : j < i
    ·rw [if_pos q2] at h1;exact absurd h1 (by decide)
    ·rw [if_neg q2] at h1;exact absurd h1 (by decide)
  by_cases b : cmpL (rk j) (rk k) = 0
  ·rw [if_neg (by simpa using b)] at h2
   have hjk : j < k:=by
    by_cases q : j < k
    ·exact q
    ·rw [if_neg q] at h2
     by_cases q2 : k < j
     ·rw [if_pos q2] at h2;exact absurd h2 (by decide)
     ·rw [if_neg q2] at h2;exact absurd h2 (by decide)
   rw [if_neg (by rw [e,b];simp),if_pos (by omega)];decide
  ·rw [if_pos b] at h2
   rw [e,if_pos b];exact h2
 ·rw [if_pos a] at h1
  by_cases b : cmpL (rk j) (rk k) = 0
  ·have e:=cmpL_zero b
   rw [← e,if_pos a];exact h1
  ·rw [if_pos b] at h2
   have:=cmpL_trans h1 h2
   rw [if_pos (by omega)];exact this
end Go.Proofs.YtkjecoanlppeaaaGreatDoor



namespace Go.Proofs.YtkjecoanlppeaaaGreatDoor
open Go.RowKit

def srtL (rk : Nat → List Nat) (n : Nat) : List (Fin n):=(List.finRange n).mergeSort (fun x y => !decide (cfR rk y.val x.val < 0))
/-- the places, the least first -/
def srt (rk : Nat → List Nat) (n : Nat) : List Nat:=(srtL rk n).map Fin.val
theorem srt_len (rk : Nat → List Nat) (n : Nat) : (srt rk n).length = n:=by
 unfold srt srtL
 rw [List.length_map,List.length_mergeSort,List.length_finRange]
theorem srt_mem {rk : Nat → List Nat} {n i : Nat} : i ∈ srt rk n ↔ i < n:=by
 unfold srt srtL
 rw [List.mem_map]
 constructor
 ·rintro ⟨x,_,rfl⟩;exact x.isLt
 ·intro h
  exact ⟨⟨i,h⟩,by rw [List.mem_mergeSort];exact List.mem_finRange _,rfl⟩
end Go.Proofs.YtkjecoanlppeaaaGreatDoor



namespace Go.Proofs.YtkjecoanlppeaaaGreatDoor
open Go.RowKit

set_option maxRecDepth 100000 in
theorem veq_dec (b : Bool) (x y s : Int) (b' : Bool) (x' y' s' : Int) (W : World) : (binOp .eql 32 (.agg #[.bool b,.int .u64 x,.int .u64 y,.int .i64 s]) (.agg #[.bool b',.int .u64 x',.int .u64 y',.int .i64 s'])).run Tryz.prog W = .ok (.bool ((b == b') && ((x == x') && ((y == y') && (s == s'))))) W:=by
 go_simp
 by_cases h0 : b = b' <;> by_cases h1 : x = x' <;> by_cases h2 : y = y' <;> by_cases h3 : s = s' <;> simp [h0,h1,h2,h3]
set_option maxRecDepth 100000 in
theorem vneq_dec (b : Bool) (x y s : Int) (b' : Bool) (x' y' s' : Int) (W : World) : (binOp .neq 32 (.agg #[.bool b,.int .u64 x,.int .u64 y,.int .i64 s]) (.agg #[.bool b',.int .u64 x',.int .u64 y',.int .i64 s'])).run Tryz.prog W = .ok (.bool (!((b == b') && ((x == x') && ((y == y') && (s == s')))))) W:=by
 go_simp
 by_cases h0 : b = b' <;> by_cases h1 : x = x' <;> by_cases h2 : y = y' <;> by_cases h3 : s = s' <;> simp [h0,h1,h2,h3]
/-- the number is the zero value -/
def zn (s : VS) : Bool:=(s.neg == false) && (((wd s.coef 1 : Int) == 0) && (((wd s.coef 0 : Int) == 0) && (s.sc == 0)))
/-- the fields that the kind does not use are zero; q: may there be items? -/
def bareQ (s : VS) (ll nl : Nat) (q : Prop) [Decidable q] : Bool:=decide ((s.kind = 1 ∨ s.yes = false) ∧ (s.kind = 2 ∨ zn s = true) ∧ (s.kind = 3 ∨ s.text = []) ∧ (s.kind = 4 ∨ s.day = 0) ∧ (q ∨ ll = 0) ∧ (s.kind = 6 ∨ nl = 0))
theorem bareQ_iff {s : VS} {ll nl : Nat} {q : Prop} [Decidable q] : bareQ s ll nl q = true ↔ ((s.kind = 1 ∨ s.yes = false) ∧ (s.kind = 2 ∨ zn s = true) ∧ (s.kind = 3 ∨ s.text = []) ∧ (s.kind = 4 ∨ s.day = 0) ∧ (q ∨ ll = 0) ∧ (s.kind = 6 ∨ nl = 0)):=by
 unfold bareQ;exact decide_eq_true_iff

end Go.Proofs.YtkjecoanlppeaaaGreatDoor



namespace Go.Proofs.YtkjecoanlppeaaaGreatDoor
open Go.RowKit

set_option maxHeartbeats 4000000 in
theorem vbare_any (s : VS) (l : List VD) (nm : List (List UInt8)) (A : Option Addr) (C : Nat) (A2 : Option Addr) (C2 : Nat) (hl : l.length ≤ 1048576) (hn : nm.length ≤ 1048576) (w : World) :
  Calls Tryz.prog 92 #[vagg s (.slice A l.length C) (.slice A2 nm.length C2)] w fun e w' => e = .returned (.bool (bareQ s l.length nm.length (s.kind = 5 ∨ s.kind = 6))) ∧ Below w.heap.size w w':=by
 obtain ⟨z,hz⟩ : ∃ z,z = bareQ s l.length nm.length (s.kind = 5 ∨ s.kind = 6):=⟨_,rfl⟩
 have hz2:=bareQ_iff (s:=s) (ll:=l.length) (nl:=nm.length) (q:=s.kind = 5 ∨ s.kind = 6)
 rw [← hz] at hz2
 rw [← hz]
 obtain ⟨zb,hzb⟩ : ∃ zb,zb = zn s:=⟨_,rfl⟩
 rw [← hzb] at hz2
 obtain ⟨kind,yes,neg,coef,sc,text,day⟩:=s
 unfold vagg
 dsimp only at hz2 ⊢
 have r1 : ∀ W,(binOp .eql 32 (.agg #[.bool neg,.int .u64 (wd coef 1),.int .u64 (wd coef 0),.int .i64 sc]) (.agg #[.bool false,.int .u64 0,.int .u64 0,.int .i64 0])).run Tryz.prog W = .ok (.bool zb) W:=fun W => by rw [veq_dec,hzb];rfl
 have r2 : ∀ W,(binOp .neq 32 (.agg #[.bool neg,.int .u64 (wd coef 1),.int .u64 (wd coef 0),.int .i64 sc]) (.agg #[.bool false,.int .u64 0,.int .u64 0,.int .i64 0])).run Tryz.prog W = .ok (.bool (!zb)) W:=fun W => by rw [vneq_dec,hzb];rfl
 obtain ⟨x1,hx1⟩ : ∃ x1,x1 = wd coef 1:=⟨_,rfl⟩
 obtain ⟨x0,hx0⟩ : ∃ x0,x0 = wd coef 0:=⟨_,rfl⟩
 rw [← hx1,← hx0] at r1 r2
 rw [← hx1,← hx0]
 obtain ⟨ll,hll⟩ : ∃ ll,ll = l.length:=⟨_,rfl⟩
 obtain ⟨nl,hnl⟩ : ∃ nl,nl = nm.length:=⟨_,rfl⟩
 rw [← hll] at hl hz2
 rw [← hnl] at hn hz2
 rw [← hll,← hnl]
 have HZ:=Lib.hid hz2
 clear hz hz2 hzb hx1 hx0 hll hnl
 have hk : kind = 1 ∨ kind = 2 ∨ kind = 3 ∨ kind = 4 ∨ kind = 5 ∨ kind = 6 ∨ kind ≤ 0 ∨ 7 ≤ kind:=by omega
 rcases hk with rfl | rfl | rfl | rfl | rfl | rfl | hk | hk
 ·have tokc : (0 : Int) = 0:=rfl
  clear tokc
  cases zb with
  | false =>
   have hzz : z = false:=by
    cases z with
    | false => rfl
    | true => obtain ⟨g1,g2,g3,g4,g5,g6⟩:=HZ.out.1 rfl;exfalso;rcases g2 with g | g <;> first | omega | exact Bool.noConfusion g
   subst hzz
   clear HZ
   go_enter Tryz.func92,Tryz.ntmps92
   go_wp2_with fail
   all_goals (go_ret;exact ⟨rfl,by (repeat' first|(with_reducible first|exact blR _ _|assumption|refine blD ?_|refine blN ?_ _)|((with_reducible first|refine blA ?_ ?_ _|refine blS ?_ ?_ _|refine blT (by assumption) ?_ ?_);focus (go_size;done)))⟩)
  | true =>
   by_cases ht : text = []
   rotate_left
   ·have t1 : text.isEmpty = false:=by simpa using ht
    have hzz : z = false:=by
     cases z with
     | false => rfl
     | true => obtain ⟨g1,g2,g3,g4,g5,g6⟩:=HZ.out.1 rfl;exfalso;rcases g3 with g | g <;> first | omega | exact ht g
    subst hzz
    clear HZ
    go_enter Tryz.func92,Tryz.ntmps92
    go_wp2_with fail
    all_goals (go_ret;exact ⟨rfl,by (repeat' first|(with_reducible first|exact blR _ _|assumption|refine blD ?_|refine blN ?_ _)|((with_reducible first|refine blA ?_ ?_ _|refine blS ?_ ?_ _|refine blT (by assumption) ?_ ?_);focus (go_size;done)))⟩)
   subst ht
   by_cases hd : day = 0
   rotate_left
   ·have d1 : (day == 0) = false:=by rw [beq_eq_false_iff_ne];exact hd
    have d2 : (day != 0) = true:=by rw [bne_iff_ne];exact hd
    have hzz : z = false:=by
     cases z with
     | false => rfl
     | true => obtain ⟨g1,g2,g3,g4,g5,g6⟩:=HZ.out.1 rfl;exfalso;rcases g4 with g | g <;> first | omega | exact hd g
    subst hzz
    clear HZ
    go_enter Tryz.func92,Tryz.ntmps92
    go_wp2_with fail
    all_goals (go_ret;exact ⟨rfl,by (repeat' first|(with_reducible first|exact blR _ _|assumption|refine blD ?_|refine blN ?_ _)|((with_reducible first|refine blA ?_ ?_ _|refine blS ?_ ?_ _|refine blT (by assumption) ?_ ?_);focus (go_size;done)))⟩)
   subst hd
   by_cases hn0 : nl = 0
   rotate_left
   ·have l1 : ((nl : Int) == 0) = false:=by rw [beq_eq_false_iff_ne];omega
    have l2 : (0 : Int) < (nl : Int):=by omega
    have hzz : z = false:=by
     cases z with
     | false => rfl
     | true => obtain ⟨g1,g2,g3,g4,g5,g6⟩:=HZ.out.1 rfl;exfalso;rcases g6 with g | g <;> omega
    subst hzz
    clear HZ
    go_enter Tryz.func92,Tryz.ntmps92
    go_wp2_with fail
    all_goals (go_ret;exact ⟨rfl,by (repeat' first|(with_reducible first|exact blR _ _|assumption|refine blD ?_|refine blN ?_ _)|((with_reducible first|refine blA ?_ ?_ _|refine blS ?_ ?_ _|refine blT (by assumption) ?_ ?_);focus (go_size;done)))⟩)
   subst hn0
   by_cases hl0 : ll = 0
   rotate_left
   ·have l1 : ((ll : Int) == 0) = false:=by rw [beq_eq_false_iff_ne];omega
    have hzz : z = false:=by
     cases z with
     | false => rfl
     | true => obtain ⟨g1,g2,g3,g4,g5,g6⟩:=HZ.out.1 rfl;exfalso;rcases g5 with g | g <;> omega
    subst hzz
    clear HZ
    go_enter Tryz.func92,Tryz.ntmps92
    go_wp2_with fail
    all_goals (go_ret;exact ⟨rfl,by (repeat' first|(with_reducible first|exact blR _ _|assumption|refine blD ?_|refine blN ?_ _)|((with_reducible first|refine blA ?_ ?_ _|refine blS ?_ ?_ _|refine blT (by assumption) ?_ ?_);focus (go_size;done)))⟩)
   subst hl0
   have hzz : z = true:=by
    refine HZ.out.2 ⟨?_, ?_, ?_, ?_, ?_, ?_⟩ <;> first | (left;omega) | (right;first | rfl | assumption | omega)
   subst hzz
   clear HZ
   go_enter Tryz.func92,Tryz.ntmps92
   go_wp2_with fail
   all_goals (go_ret;exact ⟨rfl,by (repeat' first|(with_reducible first|exact blR _ _|assumption|refine blD ?_|refine blN ?_ _)|((with_reducible first|refine blA ?_ ?_ _|refine blS ?_ ?_ _|refine blT (by assumption) ?_ ?_);focus (go_size;done)))⟩)
 ·have tokc : (0 : Int) = 0:=rfl
  clear tokc
  cases yes with
  | true =>
   have hzz : z = false:=by
    cases z with
    | false => rfl
    | true => obtain ⟨g1,g2,g3,g4,g5,g6⟩:=HZ.out.1 rfl;exfalso;rcases g1 with g | g <;> first | omega | exact Bool.noConfusion g
   subst hzz
   clear HZ
   go_enter Tryz.func92,Tryz.ntmps92
   go_wp2_with fail
   all_goals (go_ret;exact ⟨rfl,by (repeat' first|(with_reducible first|exact blR _ _|assumption|refine blD ?_|refine blN ?_ _)|((with_reducible first|refine blA ?_ ?_ _|refine blS ?_ ?_ _|refine blT (by assumption) ?_ ?_);focus (go_size;done)))⟩)
  | false =>
   by_cases ht : text = []
   rotate_left
   ·have t1 : text.isEmpty = false:=by simpa using ht
    have hzz : z = false:=by
     cases z with
     | false => rfl
     | true => obtain ⟨g1,g2,g3,g4,g5,g6⟩:=HZ.out.1 rfl;exfalso;rcases g3 with g | g <;> first | omega | exact ht g
    subst hzz
    clear HZ
    go_enter Tryz.func92,Tryz.ntmps92
    go_wp2_with fail
    all_goals (go_ret;exact ⟨rfl,by (repeat' first|(with_reducible first|exact blR _ _|assumption|refine blD ?_|refine blN ?_ _)|((with_reducible first|refine blA ?_ ?_ _|refine blS ?_ ?_ _|refine blT (by assumption) ?_ ?_);focus (go_size;done)))⟩)
   subst ht
   by_cases hd : day = 0
   rotate_left
   ·have d1 : (day == 0) = false:=by rw [beq_eq_false_iff_ne];exact hd
    have d2 : (day != 0) = true:=by rw [bne_iff_ne];exact hd
    have hzz : z = false:=by
     cases z with
     | false => rfl
     | true => obtain ⟨g1,g2,g3,g4,g5,g6⟩:=HZ.out.1 rfl;exfalso;rcases g4 with g | g <;> first | omega | exact hd g
    subst hzz
    clear HZ
    go_enter Tryz.func92,Tryz.ntmps92
    go_wp2_with fail
    all_goals (go_ret;exact ⟨rfl,by (repeat' first|(with_reducible first|exact blR _ _|assumption|refine blD ?_|refine blN ?_ _)|((with_reducible first|refine blA ?_ ?_ _|refine blS ?_ ?_ _|refine blT (by assumption) ?_ ?_);focus (go_size;done)))⟩)
   subst hd
   by_cases hn0 : nl = 0
   rotate_left
   ·have l1 : ((nl : Int) == 0) = false:=by rw [beq_eq_false_iff_ne];omega
    have l2 : (0 : Int) < (nl : Int):=by omega
    have hzz : z = false:=by
     cases z with
     | false => rfl
     | true => obtain ⟨g1,g2,g3,g4,g5,g6⟩:=HZ.out.1 rfl;exfalso;rcases g6 with g | g <;> omega
    subst hzz
    clear HZ
    go_enter Tryz.func92,Tryz.ntmps92
    go_wp2_with fail
    all_goals (go_ret;exact ⟨rfl,by (repeat' first|(with_reducible first|exact blR _ _|assumption|refine blD ?_|refine blN ?_ _)|((with_reducible first|refine blA ?_ ?_ _|refine blS ?_ ?_ _|refine blT (by assumption) ?_ ?_);focus (go_size;done)))⟩)
   subst hn0
   by_cases hl0 : ll = 0
   rotate_left
   ·have l1 : ((ll : Int) == 0) = false:=by rw [beq_eq_false_iff_ne];omega
    have hzz : z = false:=by
     cases z with
     | false => rfl
     | true => obtain ⟨g1,g2,g3,g4,g5,g6⟩:=HZ.out.1 rfl;exfalso;rcases g5 with g | g <;> omega
    subst hzz
    clear HZ
    go_enter Tryz.func92,Tryz.ntmps92
    go_wp2_with fail
    all_goals (go_ret;exact ⟨rfl,by (repeat' first|(with_reducible first|exact blR _ _|assumption|refine blD ?_|refine blN ?_ _)|((with_reducible first|refine blA ?_ ?_ _|refine blS ?_ ?_ _|refine blT (by assumption) ?_ ?_);focus (go_size;done)))⟩)
   subst hl0
   have hzz : z = true:=by
    refine HZ.out.2 ⟨?_, ?_, ?_, ?_, ?_, ?_⟩ <;> first | (left;omega) | (right;first | rfl | assumption | omega)
   subst hzz
   clear HZ
   go_enter Tryz.func92,Tryz.ntmps92
   go_wp2_with fail
   all_goals (go_ret;exact ⟨rfl,by (repeat' first|(with_reducible first|exact blR _ _|assumption|refine blD ?_|refine blN ?_ _)|((with_reducible first|refine blA ?_ ?_ _|refine blS ?_ ?_ _|refine blT (by assumption) ?_ ?_);focus (go_size;done)))⟩)
 ·have tokc : (0 : Int) = 0:=rfl
  clear tokc
  cases yes with
  | true =>
   have hzz : z = false:=by
    cases z with
    | false => rfl
    | true => obtain ⟨g1,g2,g3,g4,g5,g6⟩:=HZ.out.1 rfl;exfalso;rcases g1 with g | g <;> first | omega | exact Bool.noConfusion g
   subst hzz
   clear HZ
   go_enter Tryz.func92,Tryz.ntmps92
   go_wp2_with fail
   all_goals (go_ret;exact ⟨rfl,by (repeat' first|(with_reducible first|exact blR _ _|assumption|refine blD ?_|refine blN ?_ _)|((with_reducible first|refine blA ?_ ?_ _|refine blS ?_ ?_ _|refine blT (by assumption) ?_ ?_);focus (go_size;done)))⟩)
  | false =>
   cases zb with
   | false =>
    have hzz : z = false:=by
     cases z with
     | false => rfl
     | true => obtain ⟨g1,g2,g3,g4,g5,g6⟩:=HZ.out.1 rfl;exfalso;rcases g2 with g | g <;> first | omega | exact Bool.noConfusion g
    subst hzz
    clear HZ
    go_enter Tryz.func92,Tryz.ntmps92
    go_wp2_with fail
    all_goals (go_ret;exact ⟨rfl,by (repeat' first|(with_reducible first|exact blR _ _|assumption|refine blD ?_|refine blN ?_ _)|((with_reducible first|refine blA ?_ ?_ _|refine blS ?_ ?_ _|refine blT (by assumption) ?_ ?_);focus (go_size;done)))⟩)
   | true =>
    by_cases hd : day = 0
    rotate_left
    ·have d1 : (day == 0) = false:=by rw [beq_eq_false_iff_ne];exact hd
     have d2 : (day != 0) = true:=by rw [bne_iff_ne];exact hd
     have hzz : z = false:=by
      cases z with
      | false => rfl
      | true => obtain ⟨g1,g2,g3,g4,g5,g6⟩:=HZ.out.1 rfl;exfalso;rcases g4 with g | g <;> first | omega | exact hd g
     subst hzz
     clear HZ
     go_enter Tryz.func92,Tryz.ntmps92
     go_wp2_with fail
     all_goals (go_ret;exact ⟨rfl,by (repeat' first|(with_reducible first|exact blR _ _|assumption|refine blD ?_|refine blN ?_ _)|((with_reducible first|refine blA ?_ ?_ _|refine blS ?_ ?_ _|refine blT (by assumption) ?_ ?_);focus (go_size;done)))⟩)
    subst hd
    by_cases hn0 : nl = 0
    rotate_left
    ·have l1 : ((nl : Int) == 0) = false:=by rw [beq_eq_false_iff_ne];omega
     have l2 : (0 : Int) < (nl : Int):=by omega
     have hzz : z = false:=by
      cases z with
      | false => rfl
      | true => obtain ⟨g1,g2,g3,g4,g5,g6⟩:=HZ.out.1 rfl;exfalso;rcases g6 with g | g <;> omega
     subst hzz
     clear HZ
     go_enter Tryz.func92,Tryz.ntmps92
     go_wp2_with fail
     all_goals (go_ret;exact ⟨rfl,by (repeat' first|(with_reducible first|exact blR _ _|assumption|refine blD ?_|refine blN ?_ _)|((with_reducible first|refine blA ?_ ?_ _|refine blS ?_ ?_ _|refine blT (by assumption) ?_ ?_);focus (go_size;done)))⟩)
    subst hn0
    by_cases hl0 : ll = 0
    rotate_left
    ·have l1 : ((ll : Int) == 0) = false:=by rw [beq_eq_false_iff_ne];omega
     have hzz : z = false:=by
      cases z with
      | false => rfl
      | true => obtain ⟨g1,g2,g3,g4,g5,g6⟩:=HZ.out.1 rfl;exfalso;rcases g5 with g | g <;> omega
     subst hzz
     clear HZ
     go_enter Tryz.func92,Tryz.ntmps92
     go_wp2_with fail
     all_goals (go_ret;exact ⟨rfl,by (repeat' first|(with_reducible first|exact blR _ _|assumption|refine blD ?_|refine blN ?_ _)|((with_reducible first|refine blA ?_ ?_ _|refine blS ?_ ?_ _|refine blT (by assumption) ?_ ?_);focus (go_size;done)))⟩)
    subst hl0
    have hzz : z = true:=by
     refine HZ.out.2 ⟨?_, ?_, ?_, ?_, ?_, ?_⟩ <;> first | (left;omega) | (right;first | rfl | assumption | omega)
    subst hzz
    clear HZ
    go_enter Tryz.func92,Tryz.ntmps92
    go_wp2_with fail
    all_goals (go_ret;exact ⟨rfl,by (repeat' first|(with_reducible first|exact blR _ _|assumption|refine blD ?_|refine blN ?_ _)|((with_reducible first|refine blA ?_ ?_ _|refine blS ?_ ?_ _|refine blT (by assumption) ?_ ?_);focus (go_size;done)))⟩)
 ·have tokc : (0 : Int) = 0:=rfl
  clear tokc
  cases yes with
  | true =>
   have hzz : z = false:=by
    cases z with
    | false => rfl
    | true => obtain ⟨g1,g2,g3,g4,g5,g6⟩:=HZ.out.1 rfl;exfalso;rcases g1 with g | g <;> first | omega | exact Bool.noConfusion g
   subst hzz
   clear HZ
   go_enter Tryz.func92,Tryz.ntmps92
   go_wp2_with fail
   all_goals (go_ret;exact ⟨rfl,by (repeat' first|(with_reducible first|exact blR _ _|assumption|refine blD ?_|refine blN ?_ _)|((with_reducible first|refine blA ?_ ?_ _|refine blS ?_ ?_ _|refine blT (by assumption) ?_ ?_);focus (go_size;done)))⟩)
  | false =>
   cases zb with
   | false =>
    have hzz : z = false:=by
     cases z with
     | false => rfl
     | true => obtain ⟨g1,g2,g3,g4,g5,g6⟩:=HZ.out.1 rfl;exfalso;rcases g2 with g | g <;> first | omega | exact Bool.noConfusion g
    subst hzz
    clear HZ
    go_enter Tryz.func92,Tryz.ntmps92
    go_wp2_with fail
    all_goals (go_ret;exact ⟨rfl,by (repeat' first|(with_reducible first|exact blR _ _|assumption|refine blD ?_|refine blN ?_ _)|((with_reducible first|refine blA ?_ ?_ _|refine blS ?_ ?_ _|refine blT (by assumption) ?_ ?_);focus (go_size;done)))⟩)
   | true =>
    by_cases ht : text = []
    rotate_left
    ·have t1 : text.isEmpty = false:=by simpa using ht
     have hzz : z = false:=by
      cases z with
      | false => rfl
      | true => obtain ⟨g1,g2,g3,g4,g5,g6⟩:=HZ.out.1 rfl;exfalso;rcases g3 with g | g <;> first | omega | exact ht g
     subst hzz
     clear HZ
     go_enter Tryz.func92,Tryz.ntmps92
     go_wp2_with fail
     all_goals (go_ret;exact ⟨rfl,by (repeat' first|(with_reducible first|exact blR _ _|assumption|refine blD ?_|refine blN ?_ _)|((with_reducible first|refine blA ?_ ?_ _|refine blS ?_ ?_ _|refine blT (by assumption) ?_ ?_);focus (go_size;done)))⟩)
    subst ht
    by_cases hn0 : nl = 0
    rotate_left
    ·have l1 : ((nl : Int) == 0) = false:=by rw [beq_eq_false_iff_ne];omega
     have l2 : (0 : Int) < (nl : Int):=by omega
     have hzz : z = false:=by
      cases z with
      | false => rfl
      | true => obtain ⟨g1,g2,g3,g4,g5,g6⟩:=HZ.out.1 rfl;exfalso;rcases g6 with g | g <;> omega
     subst hzz
     clear HZ
     go_enter Tryz.func92,Tryz.ntmps92
     go_wp2_with fail
     all_goals (go_ret;exact ⟨rfl,by (repeat' first|(with_reducible first|exact blR _ _|assumption|refine blD ?_|refine blN ?_ _)|((with_reducible first|refine blA ?_ ?_ _|refine blS ?_ ?_ _|refine blT (by assumption) ?_ ?_);focus (go_size;done)))⟩)
    subst hn0
    by_cases hl0 : ll = 0
    rotate_left
    ·have l1 : ((ll : Int) == 0) = false:=by rw [beq_eq_false_iff_ne];omega
     have hzz : z = false:=by
      cases z with
      | false => rfl
      | true => obtain ⟨g1,g2,g3,g4,g5,g6⟩:=HZ.out.1 rfl;exfalso;rcases g5 with g | g <;> omega
     subst hzz
     clear HZ
     go_enter Tryz.func92,Tryz.ntmps92
     go_wp2_with fail
     all_goals (go_ret;exact ⟨rfl,by (repeat' first|(with_reducible first|exact blR _ _|assumption|refine blD ?_|refine blN ?_ _)|((with_reducible first|refine blA ?_ ?_ _|refine blS ?_ ?_ _|refine blT (by assumption) ?_ ?_);focus (go_size;done)))⟩)
    subst hl0
    have hzz : z = true:=by
     refine HZ.out.2 ⟨?_, ?_, ?_, ?_, ?_, ?_⟩ <;> first | (left;omega) | (right;first | rfl | assumption | omega)
    subst hzz
    clear HZ
    go_enter Tryz.func92,Tryz.ntmps92
    go_wp2_with fail
    all_goals (go_ret;exact ⟨rfl,by (repeat' first|(with_reducible first|exact blR _ _|assumption|refine blD ?_|refine blN ?_ _)|((with_reducible first|refine blA ?_ ?_ _|refine blS ?_ ?_ _|refine blT (by assumption) ?_ ?_);focus (go_size;done)))⟩)
 ·have tokc : (0 : Int) = 0:=rfl
  clear tokc
  cases yes with
  | true =>
   have hzz : z = false:=by
    cases z with
    | false => rfl
    | true => obtain ⟨g1,g2,g3,g4,g5,g6⟩:=HZ.out.1 rfl;exfalso;rcases g1 with g | g <;> first | omega | exact Bool.noConfusion g
   subst hzz
   clear HZ
   go_enter Tryz.func92,Tryz.ntmps92
   go_wp2_with fail
   all_goals (go_ret;exact ⟨rfl,by (repeat' first|(with_reducible first|exact blR _ _|assumption|refine blD ?_|refine blN ?_ _)|((with_reducible first|refine blA ?_ ?_ _|refine blS ?_ ?_ _|refine blT (by assumption) ?_ ?_);focus (go_size;done)))⟩)
  | false =>
   cases zb with
   | false =>
    have hzz : z = false:=by
     cases z with
     | false => rfl
     | true => obtain ⟨g1,g2,g3,g4,g5,g6⟩:=HZ.out.1 rfl;exfalso;rcases g2 with g | g <;> first | omega | exact Bool.noConfusion g
    subst hzz
    clear HZ
    go_enter Tryz.func92,Tryz.ntmps92
    go_wp2_with fail
    all_goals (go_ret;exact ⟨rfl,by (repeat' first|(with_reducible first|exact blR _ _|assumption|refine blD ?_|refine blN ?_ _)|((with_reducible first|refine blA ?_ ?_ _|refine blS ?_ ?_ _|refine blT (by assumption) ?_ ?_);focus (go_size;done)))⟩)
   | true =>
    by_cases ht : text = []
    rotate_left
    ·have t1 : text.isEmpty = false:=by simpa using ht
     have hzz : z = false:=by
      cases z with
      | false => rfl
      | true => obtain ⟨g1,g2,g3,g4,g5,g6⟩:=HZ.out.1 rfl;exfalso;rcases g3 with g | g <;> first | omega | exact ht g
     subst hzz
     clear HZ
     go_enter Tryz.func92,Tryz.ntmps92
     go_wp2_with fail
     all_goals (go_ret;exact ⟨rfl,by (repeat' first|(with_reducible first|exact blR _ _|assumption|refine blD ?_|refine blN ?_ _)|((with_reducible first|refine blA ?_ ?_ _|refine blS ?_ ?_ _|refine blT (by assumption) ?_ ?_);focus (go_size;done)))⟩)
    subst ht
    by_cases hd : day = 0
    rotate_left
    ·have d1 : (day == 0) = false:=by rw [beq_eq_false_iff_ne];exact hd
     have d2 : (day != 0) = true:=by rw [bne_iff_ne];exact hd
     have hzz : z = false:=by
      cases z with
      | false => rfl
      | true => obtain ⟨g1,g2,g3,g4,g5,g6⟩:=HZ.out.1 rfl;exfalso;rcases g4 with g | g <;> first | omega | exact hd g
     subst hzz
     clear HZ
     go_enter Tryz.func92,Tryz.ntmps92
     go_wp2_with fail
     all_goals (go_ret;exact ⟨rfl,by (repeat' first|(with_reducible first|exact blR _ _|assumption|refine blD ?_|refine blN ?_ _)|((with_reducible first|refine blA ?_ ?_ _|refine blS ?_ ?_ _|refine blT (by assumption) ?_ ?_);focus (go_size;done)))⟩)
    subst hd
    by_cases hn0 : nl = 0
    rotate_left
    ·have l1 : ((nl : Int) == 0) = false:=by rw [beq_eq_false_iff_ne];omega
     have l2 : (0 : Int) < (nl : Int):=by omega
     have hzz : z = false:=by
      cases z with
      | false => rfl
      | true => obtain ⟨g1,g2,g3,g4,g5,g6⟩:=HZ.out.1 rfl;exfalso;rcases g6 with g | g <;> omega
     subst hzz
     clear HZ
     go_enter Tryz.func92,Tryz.ntmps92
     go_wp2_with fail
     all_goals (go_ret;exact ⟨rfl,by (repeat' first|(with_reducible first|exact blR _ _|assumption|refine blD ?_|refine blN ?_ _)|((with_reducible first|refine blA ?_ ?_ _|refine blS ?_ ?_ _|refine blT (by assumption) ?_ ?_);focus (go_size;done)))⟩)
    subst hn0
    rcases Nat.eq_zero_or_pos ll with hl0 | hl0
    ·subst hl0
     have hzz : z = true:=by
      refine HZ.out.2 ⟨?_, ?_, ?_, ?_, ?_, ?_⟩ <;> first | (left;omega) | (right;first | rfl | assumption | omega)
     subst hzz
     clear HZ
     go_enter Tryz.func92,Tryz.ntmps92
     go_wp2_with fail
     all_goals (go_ret;exact ⟨rfl,by (repeat' first|(with_reducible first|exact blR _ _|assumption|refine blD ?_|refine blN ?_ _)|((with_reducible first|refine blA ?_ ?_ _|refine blS ?_ ?_ _|refine blT (by assumption) ?_ ?_);focus (go_size;done)))⟩)
    ·have l1 : ((ll : Int) == 0) = false:=by rw [beq_eq_false_iff_ne];omega
     have hzz : z = true:=by
      refine HZ.out.2 ⟨?_, ?_, ?_, ?_, ?_, ?_⟩ <;> first | (left;omega) | (right;first | rfl | assumption | omega)
     subst hzz
     clear HZ
     go_enter Tryz.func92,Tryz.ntmps92
     go_wp2_with fail
     all_goals (go_ret;exact ⟨rfl,by (repeat' first|(with_reducible first|exact blR _ _|assumption|refine blD ?_|refine blN ?_ _)|((with_reducible first|refine blA ?_ ?_ _|refine blS ?_ ?_ _|refine blT (by assumption) ?_ ?_);focus (go_size;done)))⟩)
 ·have tokc : (0 : Int) = 0:=rfl
  clear tokc
  cases yes with
  | true =>
   have hzz : z = false:=by
    cases z with
    | false => rfl
    | true => obtain ⟨g1,g2,g3,g4,g5,g6⟩:=HZ.out.1 rfl;exfalso;rcases g1 with g | g <;> first | omega | exact Bool.noConfusion g
   subst hzz
   clear HZ
   go_enter Tryz.func92,Tryz.ntmps92
   go_wp2_with fail
   all_goals (go_ret;exact ⟨rfl,by (repeat' first|(with_reducible first|exact blR _ _|assumption|refine blD ?_|refine blN ?_ _)|((with_reducible first|refine blA ?_ ?_ _|refine blS ?_ ?_ _|refine blT (by assumption) ?_ ?_);focus (go_size;done)))⟩)
  | false =>
   cases zb with
   | false =>
    have hzz : z = false:=by
     cases z with
     | false => rfl
     | true => obtain ⟨g1,g2,g3,g4,g5,g6⟩:=HZ.out.1 rfl;exfalso;rcases g2 with g | g <;> first | omega | exact Bool.noConfusion g
    subst hzz
    clear HZ
    go_enter Tryz.func92,Tryz.ntmps92
    go_wp2_with fail
    all_goals (go_ret;exact ⟨rfl,by (repeat' first|(with_reducible first|exact blR _ _|assumption|refine blD ?_|refine blN ?_ _)|((with_reducible first|refine blA ?_ ?_ _|refine blS ?_ ?_ _|refine blT (by assumption) ?_ ?_);focus (go_size;done)))⟩)
   | true =>
    by_cases ht : text = []
    rotate_left
    ·have t1 : text.isEmpty = false:=by simpa using ht
     have hzz : z = false:=by
      cases z with
      | false => rfl
      | true => obtain ⟨g1,g2,g3,g4,g5,g6⟩:=HZ.out.1 rfl;exfalso;rcases g3 with g | g <;> first | omega | exact ht g
     subst hzz
     clear HZ
     go_enter Tryz.func92,Tryz.ntmps92
     go_wp2_with fail
     all_goals (go_ret;exact ⟨rfl,by (repeat' first|(with_reducible first|exact blR _ _|assumption|refine blD ?_|refine blN ?_ _)|((with_reducible first|refine blA ?_ ?_ _|refine blS ?_ ?_ _|refine blT (by assumption) ?_ ?_);focus (go_size;done)))⟩)
    subst ht
    by_cases hd : day = 0
    rotate_left
    ·have d1 : (day == 0) = false:=by rw [beq_eq_false_iff_ne];exact hd
     have d2 : (day != 0) = true:=by rw [bne_iff_ne];exact hd
     have hzz : z = false:=by
      cases z with
      | false => rfl
      | true => obtain ⟨g1,g2,g3,g4,g5,g6⟩:=HZ.out.1 rfl;exfalso;rcases g4 with g | g <;> first | omega | exact hd g
     subst hzz
     clear HZ
     go_enter Tryz.func92,Tryz.ntmps92
     go_wp2_with fail
     all_goals (go_ret;exact ⟨rfl,by (repeat' first|(with_reducible first|exact blR _ _|assumption|refine blD ?_|refine blN ?_ _)|((with_reducible first|refine blA ?_ ?_ _|refine blS ?_ ?_ _|refine blT (by assumption) ?_ ?_);focus (go_size;done)))⟩)
    subst hd
    rcases Nat.eq_zero_or_pos ll with hl0 | hl0
    ·subst hl0
     have hzz : z = true:=by
      refine HZ.out.2 ⟨?_, ?_, ?_, ?_, ?_, ?_⟩ <;> first | (left;omega) | (right;first | rfl | assumption | omega)
     subst hzz
     clear HZ
     go_enter Tryz.func92,Tryz.ntmps92
     go_wp2_with fail
     all_goals (go_ret;exact ⟨rfl,by (repeat' first|(with_reducible first|exact blR _ _|assumption|refine blD ?_|refine blN ?_ _)|((with_reducible first|refine blA ?_ ?_ _|refine blS ?_ ?_ _|refine blT (by assumption) ?_ ?_);focus (go_size;done)))⟩)
    ·have l1 : ((ll : Int) == 0) = false:=by rw [beq_eq_false_iff_ne];omega
     have hzz : z = true:=by
      refine HZ.out.2 ⟨?_, ?_, ?_, ?_, ?_, ?_⟩ <;> first | (left;omega) | (right;first | rfl | assumption | omega)
     subst hzz
     clear HZ
     go_enter Tryz.func92,Tryz.ntmps92
     go_wp2_with fail
     all_goals (go_ret;exact ⟨rfl,by (repeat' first|(with_reducible first|exact blR _ _|assumption|refine blD ?_|refine blN ?_ _)|((with_reducible first|refine blA ?_ ?_ _|refine blS ?_ ?_ _|refine blT (by assumption) ?_ ?_);focus (go_size;done)))⟩)
 ·have tokc : (0 : Int) = 0:=rfl
  clear tokc
  have e1 : (kind == 1) = false:=by rw [beq_eq_false_iff_ne];omega
  have f1 : (kind != 1) = true:=by rw [bne_iff_ne];omega
  have e2 : (kind == 2) = false:=by rw [beq_eq_false_iff_ne];omega
  have f2 : (kind != 2) = true:=by rw [bne_iff_ne];omega
  have e3 : (kind == 3) = false:=by rw [beq_eq_false_iff_ne];omega
  have f3 : (kind != 3) = true:=by rw [bne_iff_ne];omega
  have e4 : (kind == 4) = false:=by rw [beq_eq_false_iff_ne];omega
  have f4 : (kind != 4) = true:=by rw [bne_iff_ne];omega
  have e5 : (kind == 5) = false:=by rw [beq_eq_false_iff_ne];omega
  have f5 : (kind != 5) = true:=by rw [bne_iff_ne];omega
  have e6 : (kind == 6) = false:=by rw [beq_eq_false_iff_ne];omega
  have f6 : (kind != 6) = true:=by rw [bne_iff_ne];omega
  have k5 : decide (5 ≤ kind) = false:=decide_eq_false (by omega)
  cases yes with
  | true =>
   have hzz : z = false:=by
    cases z with
    | false => rfl
    | true => obtain ⟨g1,g2,g3,g4,g5,g6⟩:=HZ.out.1 rfl;exfalso;rcases g1 with g | g <;> first | omega | exact Bool.noConfusion g
   subst hzz
   clear HZ
   go_enter Tryz.func92,Tryz.ntmps92
   go_wp2_with fail
   all_goals (go_ret;exact ⟨rfl,by (repeat' first|(with_reducible first|exact blR _ _|assumption|refine blD ?_|refine blN ?_ _)|((with_reducible first|refine blA ?_ ?_ _|refine blS ?_ ?_ _|refine blT (by assumption) ?_ ?_);focus (go_size;done)))⟩)
  | false =>
   cases zb with
   | false =>
    have hzz : z = false:=by
     cases z with
     | false => rfl
     | true => obtain ⟨g1,g2,g3,g4,g5,g6⟩:=HZ.out.1 rfl;exfalso;rcases g2 with g | g <;> first | omega | exact Bool.noConfusion g
    subst hzz
    clear HZ
    go_enter Tryz.func92,Tryz.ntmps92
    go_wp2_with fail
    all_goals (go_ret;exact ⟨rfl,by (repeat' first|(with_reducible first|exact blR _ _|assumption|refine blD ?_|refine blN ?_ _)|((with_reducible first|refine blA ?_ ?_ _|refine blS ?_ ?_ _|refine blT (by assumption) ?_ ?_);focus (go_size;done)))⟩)
   | true =>
    by_cases ht : text = []
    rotate_left
    ·have t1 : text.isEmpty = false:=by simpa using ht
     have hzz : z = false:=by
      cases z with
      | false => rfl
      | true => obtain ⟨g1,g2,g3,g4,g5,g6⟩:=HZ.out.1 rfl;exfalso;rcases g3 with g | g <;> first | omega | exact ht g
     subst hzz
     clear HZ
     go_enter Tryz.func92,Tryz.ntmps92
     go_wp2_with fail
     all_goals (go_ret;exact ⟨rfl,by (repeat' first|(with_reducible first|exact blR _ _|assumption|refine blD ?_|refine blN ?_ _)|((with_reducible first|refine blA ?_ ?_ _|refine blS ?_ ?_ _|refine blT (by assumption) ?_ ?_);focus (go_size;done)))⟩)
    subst ht
    by_cases hd : day = 0
    rotate_left
    ·have d1 : (day == 0) = false:=by rw [beq_eq_false_iff_ne];exact hd
     have d2 : (day != 0) = true:=by rw [bne_iff_ne];exact hd
     have hzz : z = false:=by
      cases z with
      | false => rfl
      | true => obtain ⟨g1,g2,g3,g4,g5,g6⟩:=HZ.out.1 rfl;exfalso;rcases g4 with g | g <;> first | omega | exact hd g
     subst hzz
     clear HZ
     go_enter Tryz.func92,Tryz.ntmps92
     go_wp2_with fail
     all_goals (go_ret;exact ⟨rfl,by (repeat' first|(with_reducible first|exact blR _ _|assumption|refine blD ?_|refine blN ?_ _)|((with_reducible first|refine blA ?_ ?_ _|refine blS ?_ ?_ _|refine blT (by assumption) ?_ ?_);focus (go_size;done)))⟩)
    subst hd
    by_cases hn0 : nl = 0
    rotate_left
    ·have l1 : ((nl : Int) == 0) = false:=by rw [beq_eq_false_iff_ne];omega
     have l2 : (0 : Int) < (nl : Int):=by omega
     have hzz : z = false:=by
      cases z with
      | false => rfl
      | true => obtain ⟨g1,g2,g3,g4,g5,g6⟩:=HZ.out.1 rfl;exfalso;rcases g6 with g | g <;> omega
     subst hzz
     clear HZ
     go_enter Tryz.func92,Tryz.ntmps92
     go_wp2_with fail
     all_goals (go_ret;exact ⟨rfl,by (repeat' first|(with_reducible first|exact blR _ _|assumption|refine blD ?_|refine blN ?_ _)|((with_reducible first|refine blA ?_ ?_ _|refine blS ?_ ?_ _|refine blT (by assumption) ?_ ?_);focus (go_size;done)))⟩)
    subst hn0
    by_cases hl0 : ll = 0
    rotate_left
    ·have l1 : ((ll : Int) == 0) = false:=by rw [beq_eq_false_iff_ne];omega
     have hzz : z = false:=by
      cases z with
      | false => rfl
      | true => obtain ⟨g1,g2,g3,g4,g5,g6⟩:=HZ.out.1 rfl;exfalso;rcases g5 with g | g <;> omega
     subst hzz
     clear HZ
     go_enter Tryz.func92,Tryz.ntmps92
     go_wp2_with fail
     all_goals (go_ret;exact ⟨rfl,by (repeat' first|(with_reducible first|exact blR _ _|assumption|refine blD ?_|refine blN ?_ _)|((with_reducible first|refine blA ?_ ?_ _|refine blS ?_ ?_ _|refine blT (by assumption) ?_ ?_);focus (go_size;done)))⟩)
    subst hl0
    have hzz : z = true:=by
     refine HZ.out.2 ⟨?_, ?_, ?_, ?_, ?_, ?_⟩ <;> first | (left;omega) | (right;first | rfl | assumption | omega)
    subst hzz
    clear HZ
    go_enter Tryz.func92,Tryz.ntmps92
    go_wp2_with fail
    all_goals (go_ret;exact ⟨rfl,by (repeat' first|(with_reducible first|exact blR _ _|assumption|refine blD ?_|refine blN ?_ _)|((with_reducible first|refine blA ?_ ?_ _|refine blS ?_ ?_ _|refine blT (by assumption) ?_ ?_);focus (go_size;done)))⟩)
 ·have tokc : (0 : Int) = 0:=rfl
  clear tokc
  have e1 : (kind == 1) = false:=by rw [beq_eq_false_iff_ne];omega
  have f1 : (kind != 1) = true:=by rw [bne_iff_ne];omega
  have e2 : (kind == 2) = false:=by rw [beq_eq_false_iff_ne];omega
  have f2 : (kind != 2) = true:=by rw [bne_iff_ne];omega
  have e3 : (kind == 3) = false:=by rw [beq_eq_false_iff_ne];omega
  have f3 : (kind != 3) = true:=by rw [bne_iff_ne];omega
  have e4 : (kind == 4) = false:=by rw [beq_eq_false_iff_ne];omega
  have f4 : (kind != 4) = true:=by rw [bne_iff_ne];omega
  have e5 : (kind == 5) = false:=by rw [beq_eq_false_iff_ne];omega
  have f5 : (kind != 5) = true:=by rw [bne_iff_ne];omega
  have e6 : (kind == 6) = false:=by rw [beq_eq_false_iff_ne];omega
  have f6 : (kind != 6) = true:=by rw [bne_iff_ne];omega
  have k5 : decide (5 ≤ kind) = true:=decide_eq_true (by omega)
  cases yes with
  | true =>
   have hzz : z = false:=by
    cases z with
    | false => rfl
    | true => obtain ⟨g1,g2,g3,g4,g5,g6⟩:=HZ.out.1 rfl;exfalso;rcases g1 with g | g <;> first | omega | exact Bool.noConfusion g
   subst hzz
   clear HZ
   go_enter Tryz.func92,Tryz.ntmps92
   go_wp2_with fail
   all_goals (go_ret;exact ⟨rfl,by (repeat' first|(with_reducible first|exact blR _ _|assumption|refine blD ?_|refine blN ?_ _)|((with_reducible first|refine blA ?_ ?_ _|refine blS ?_ ?_ _|refine blT (by assumption) ?_ ?_);focus (go_size;done)))⟩)
  | false =>
   cases zb with
   | false =>
    have hzz : z = false:=by
     cases z with
     | false => rfl
     | true => obtain ⟨g1,g2,g3,g4,g5,g6⟩:=HZ.out.1 rfl;exfalso;rcases g2 with g | g <;> first | omega | exact Bool.noConfusion g
    subst hzz
    clear HZ
    go_enter Tryz.func92,Tryz.ntmps92
    go_wp2_with fail
    all_goals (go_ret;exact ⟨rfl,by (repeat' first|(with_reducible first|exact blR _ _|assumption|refine blD ?_|refine blN ?_ _)|((with_reducible first|refine blA ?_ ?_ _|refine blS ?_ ?_ _|refine blT (by assumption) ?_ ?_);focus (go_size;done)))⟩)
   | true =>
    by_cases ht : text = []
    rotate_left
    ·have t1 : text.isEmpty = false:=by simpa using ht
     have hzz : z = false:=by
      cases z with
      | false => rfl
      | true => obtain ⟨g1,g2,g3,g4,g5,g6⟩:=HZ.out.1 rfl;exfalso;rcases g3 with g | g <;> first | omega | exact ht g
     subst hzz
     clear HZ
     go_enter Tryz.func92,Tryz.ntmps92
     go_wp2_with fail
     all_goals (go_ret;exact ⟨rfl,by (repeat' first|(with_reducible first|exact blR _ _|assumption|refine blD ?_|refine blN ?_ _)|((with_reducible first|refine blA ?_ ?_ _|refine blS ?_ ?_ _|refine blT (by assumption) ?_ ?_);focus (go_size;done)))⟩)
    subst ht
    by_cases hd : day = 0
    rotate_left
    ·have d1 : (day == 0) = false:=by rw [beq_eq_false_iff_ne];exact hd
     have d2 : (day != 0) = true:=by rw [bne_iff_ne];exact hd
     have hzz : z = false:=by
      cases z with
      | false => rfl
      | true => obtain ⟨g1,g2,g3,g4,g5,g6⟩:=HZ.out.1 rfl;exfalso;rcases g4 with g | g <;> first | omega | exact hd g
     subst hzz
     clear HZ
     go_enter Tryz.func92,Tryz.ntmps92
     go_wp2_with fail
     all_goals (go_ret;exact ⟨rfl,by (repeat' first|(with_reducible first|exact blR _ _|assumption|refine blD ?_|refine blN ?_ _)|((with_reducible first|refine blA ?_ ?_ _|refine blS ?_ ?_ _|refine blT (by assumption) ?_ ?_);focus (go_size;done)))⟩)
    subst hd
    by_cases hn0 : nl = 0
    rotate_left
    ·have l1 : ((nl : Int) == 0) = false:=by rw [beq_eq_false_iff_ne];omega
     have l2 : (0 : Int) < (nl : Int):=by omega
     have hzz : z = false:=by
      cases z with
      | false => rfl
      | true => obtain ⟨g1,g2,g3,g4,g5,g6⟩:=HZ.out.1 rfl;exfalso;rcases g6 with g | g <;> omega
     subst hzz
     clear HZ
     go_enter Tryz.func92,Tryz.ntmps92
     go_wp2_with fail
     all_goals (go_ret;exact ⟨rfl,by (repeat' first|(with_reducible first|exact blR _ _|assumption|refine blD ?_|refine blN ?_ _)|((with_reducible first|refine blA ?_ ?_ _|refine blS ?_ ?_ _|refine blT (by assumption) ?_ ?_);focus (go_size;done)))⟩)
    subst hn0
    by_cases hl0 : ll = 0
    rotate_left
    ·have l1 : ((ll : Int) == 0) = false:=by rw [beq_eq_false_iff_ne];omega
     have hzz : z = false:=by
      cases z with
      | false => rfl
      | true => obtain ⟨g1,g2,g3,g4,g5,g6⟩:=HZ.out.1 rfl;exfalso;rcases g5 with g | g <;> omega
     subst hzz
     clear HZ
     go_enter Tryz.func92,Tryz.ntmps92
     go_wp2_with fail
     all_goals (go_ret;exact ⟨rfl,by (repeat' first|(with_reducible first|exact blR _ _|assumption|refine blD ?_|refine blN ?_ _)|((with_reducible first|refine blA ?_ ?_ _|refine blS ?_ ?_ _|refine blT (by assumption) ?_ ?_);focus (go_size;done)))⟩)
    subst hl0
    have hzz : z = true:=by
     refine HZ.out.2 ⟨?_, ?_, ?_, ?_, ?_, ?_⟩ <;> first | (left;omega) | (right;first | rfl | assumption | omega)
    subst hzz
    clear HZ
    go_enter Tryz.func92,Tryz.ntmps92
    go_wp2_with fail
    all_goals (go_ret;exact ⟨rfl,by (repeat' first|(with_reducible first|exact blR _ _|assumption|refine blD ?_|refine blN ?_ _)|((with_reducible first|refine blA ?_ ?_ _|refine blS ?_ ?_ _|refine blT (by assumption) ?_ ?_);focus (go_size;done)))⟩)
end Go.Proofs.YtkjecoanlppeaaaGreatDoor



namespace Go.Proofs.YtkjecoanlppeaaaGreatDoor
open Go.Lib

/-- a character of a text, as the document says -/
def chrP (c : Nat) : Prop:=c = 9 ∨ c = 10 ∨ c = 13 ∨ (32 ≤ c ∧ c ≤ 55295) ∨ (57344 ≤ c ∧ c ≤ 65533) ∨ (65536 ≤ c ∧ c ≤ 1114111)
instance (c : Nat) : Decidable (chrP c):=by unfold chrP;infer_instance
def chr (c : Nat) : Bool:=decide (chrP c)
/-- the document's decoder at the head of n bytes: the character, its bytes, and whether it is one in its shortest form -/
def oneN (n b0 b1 b2 b3 : Nat) : Nat × Nat × Bool :=
 if b0 < 128 then (b0,1,true)
 else if 192 ≤ b0 ∧ b0 < 224 then
  (if 1 < n ∧ b1 / 64 = 2 then (b0 % 32 * 64 + b1 % 64,2,decide (128 ≤ b0 % 32 * 64 + b1 % 64)) else (0,0,false))
 else if 224 ≤ b0 ∧ b0 < 240 then
  (if 1 < n ∧ b1 / 64 = 2 then (if 2 < n ∧ b2 / 64 = 2 then ((b0 % 16 * 64 + b1 % 64) * 64 + b2 % 64,3,decide (2048 ≤ (b0 % 16 * 64 + b1 % 64) * 64 + b2 % 64)) else (0,0,false)) else (0,0,false))
 else if 240 ≤ b0 ∧ b0 < 248 then
  (if 1 < n ∧ b1 / 64 = 2 then (if 2 < n ∧ b2 / 64 = 2 then (if 3 < n ∧ b3 / 64 = 2 then (((b0 % 8 * 64 + b1 % 64) * 64 + b2 % 64) * 64 + b3 % 64,4,decide (65536 ≤ ((b0 % 8 * 64 + b1 % 64) * 64 + b2 % 64) * 64 + b3 % 64)) else (0,0,false)) else (0,0,false)) else (0,0,false))
 else (0,0,false)
/-- the two decoders, case by case: either both take the same character, or neither does -/
theorem one_dec {n b0 b1 b2 b3 : Nat} (h0 : b0 < 256) :
  (∃ c m,oneN n b0 b1 b2 b3 = (c,m,true) ∧ chrP c ∧ decodeN n b0 b1 b2 b3 = (c,m) ∧ ¬ (c = 65533 ∧ m = 1)) ∨
  (((oneN n b0 b1 b2 b3).2.2 = false ∨ ¬ chrP (oneN n b0 b1 b2 b3).1) ∧ (((decodeN n b0 b1 b2 b3).1 = 65533 ∧ (decodeN n b0 b1 b2 b3).2 = 1) ∨ ¬ chrP (decodeN n b0 b1 b2 b3).1)):=by
 by_cases a1 : b0 < 128
 ·have e1 : oneN n b0 b1 b2 b3 = (b0,1,true):=by unfold oneN;rw [if_pos a1]
  have e2 : decodeN n b0 b1 b2 b3 = (b0,1):=by unfold decodeN;rw [if_pos a1]
  by_cases hc : chrP b0
  ·exact .inl ⟨b0,1,e1,hc,e2,by omega⟩
  ·exact .inr ⟨.inr (by rw [e1];exact hc),.inr (by rw [e2];exact hc)⟩
 by_cases a2 : 192 ≤ b0 ∧ b0 < 224
 ·by_cases t1 : 1 < n ∧ b1 / 64 = 2
  ·have d : b0 / 32 = 6 ∧ (1 < n ∧ b1 / 64 = 2):=⟨by omega,t1⟩
   have e1 : oneN n b0 b1 b2 b3 = (b0 % 32 * 64 + b1 % 64,2,decide (128 ≤ b0 % 32 * 64 + b1 % 64)):=by unfold oneN;rw [if_neg a1,if_pos a2,if_pos t1]
   by_cases g : 128 ≤ b0 % 32 * 64 + b1 % 64
   ·have e2 : decodeN n b0 b1 b2 b3 = (b0 % 32 * 64 + b1 % 64,2):=by unfold decodeN;rw [if_neg a1,if_pos d,if_pos g]
    rw [decide_eq_true g] at e1
    by_cases hc : chrP (b0 % 32 * 64 + b1 % 64)
    ·exact .inl ⟨_,2,e1,hc,e2,by omega⟩
    ·exact .inr ⟨.inr (by rw [e1];exact hc),.inr (by rw [e2];exact hc)⟩
   ·have e2 : decodeN n b0 b1 b2 b3 = (65533,1):=by unfold decodeN;rw [if_neg a1,if_pos d,if_neg g]
    exact .inr ⟨.inl (by rw [e1];exact decide_eq_false g),.inl (by rw [e2];exact ⟨rfl,rfl⟩)⟩
  ·have e1 : oneN n b0 b1 b2 b3 = (0,0,false):=by unfold oneN;rw [if_neg a1,if_pos a2,if_neg t1]
   have e2 : decodeN n b0 b1 b2 b3 = (65533,1):=by
    unfold decodeN;rw [if_neg a1,if_neg (fun h => t1 h.2),if_neg (by omega),if_neg (by omega)]
   exact .inr ⟨.inl (by rw [e1]),.inl (by rw [e2];exact ⟨rfl,rfl⟩)⟩
 by_cases a3 : 224 ≤ b0 ∧ b0 < 240
 ·have n1 : ¬ (b0 / 32 = 6 ∧ (1 < n ∧ b1 / 64 = 2)):=by omega
  by_cases t1 : 1 < n ∧ b1 / 64 = 2
  ·by_cases t2 : 2 < n ∧ b2 / 64 = 2
   ·have d : b0 / 16 = 14 ∧ (1 < n ∧ b1 / 64 = 2) ∧ (2 < n ∧ b2 / 64 = 2):=⟨by omega,t1,t2⟩
    have ec : b0 % 16 * 4096 + b1 % 64 * 64 + b2 % 64 = (b0 % 16 * 64 + b1 % 64) * 64 + b2 % 64:=by omega
    have e1 : oneN n b0 b1 b2 b3 = ((b0 % 16 * 64 + b1 % 64) * 64 + b2 % 64,3,decide (2048 ≤ (b0 % 16 * 64 + b1 % 64) * 64 + b2 % 64)):=by unfold oneN;rw [if_neg a1,if_neg a2,if_pos a3,if_pos t1,if_pos t2]
    obtain ⟨c,hc⟩ : ∃ c,c = (b0 % 16 * 64 + b1 % 64) * 64 + b2 % 64:=⟨_,rfl⟩
    rw [← hc] at e1 ec
    have hcl : c < 65536:=by omega
    by_cases g : c ≥ 2048 ∧ (c < 55296 ∨ (57344 ≤ c ∧ c ≤ 1114111))
    ·have e2 : decodeN n b0 b1 b2 b3 = (c,3):=by unfold decodeN;rw [if_neg a1,if_neg n1,if_pos d,ec,if_pos g]
     rw [decide_eq_true g.1] at e1
     by_cases hcc : chrP c
     ·exact .inl ⟨_,3,e1,hcc,e2,by omega⟩
     ·exact .inr ⟨.inr (by rw [e1];exact hcc),.inr (by rw [e2];exact hcc)⟩
    ·have e2 : decodeN n b0 b1 b2 b3 = (65533,1):=by unfold decodeN;rw [if_neg a1,if_neg n1,if_pos d,ec,if_neg g]
     refine .inr ⟨?_,.inl (by rw [e2];exact ⟨rfl,rfl⟩)⟩
     rw [e1]
     by_cases g2 : 2048 ≤ c
     ·right;unfold chrP;show ¬ _;omega
     ·left;exact decide_eq_false g2
   ·have e1 : oneN n b0 b1 b2 b3 = (0,0,false):=by unfold oneN;rw [if_neg a1,if_neg a2,if_pos a3,if_pos t1,if_neg t2]
    have e2 : decodeN n b0 b1 b2 b3 = (65533,1):=by
     unfold decodeN;rw [if_neg a1,if_neg n1,if_neg (fun h => t2 h.2.2),if_neg (by omega)]
    exact .inr ⟨.inl (by rw [e1]),.inl (by rw [e2];exact ⟨rfl,rfl⟩)⟩
  ·have e1 : oneN n b0 b1 b2 b3 = (0,0,false):=by unfold oneN;rw [if_neg a1,if_neg a2,if_pos a3,if_neg t1]
   have e2 : decodeN n b0 b1 b2 b3 = (65533,1):=by
    unfold decodeN;rw [if_neg a1,if_neg n1,if_neg (fun h => t1 h.2.1),if_neg (by omega)]
   exact .inr ⟨.inl (by rw [e1]),.inl (by rw [e2];exact ⟨rfl,rfl⟩)⟩
 by_cases a4 : 240 ≤ b0 ∧ b0 < 248
 ·have n1 : ¬ (b0 / 32 = 6 ∧ (1 < n ∧ b1 / 64 = 2)):=by omega
  have n2 : ¬ (b0 / 16 = 14 ∧ (1 < n ∧ b1 / 64 = 2) ∧ (2 < n ∧ b2 / 64 = 2)):=by omega
  by_cases t1 : 1 < n ∧ b1 / 64 = 2
  ·by_cases t2 : 2 < n ∧ b2 / 64 = 2
   ·by_cases t3 : 3 < n ∧ b3 / 64 = 2
    ·have d : b0 / 8 = 30 ∧ (1 < n ∧ b1 / 64 = 2) ∧ (2 < n ∧ b2 / 64 = 2) ∧ (3 < n ∧ b3 / 64 = 2):=⟨by omega,t1,t2,t3⟩
     have ec : b0 % 8 * 262144 + b1 % 64 * 4096 + b2 % 64 * 64 + b3 % 64 = ((b0 % 8 * 64 + b1 % 64) * 64 + b2 % 64) * 64 + b3 % 64:=by omega
     have e1 : oneN n b0 b1 b2 b3 = (((b0 % 8 * 64 + b1 % 64) * 64 + b2 % 64) * 64 + b3 % 64,4,decide (65536 ≤ ((b0 % 8 * 64 + b1 % 64) * 64 + b2 % 64) * 64 + b3 % 64)):=by unfold oneN;rw [if_neg a1,if_neg a2,if_neg a3,if_pos a4,if_pos t1,if_pos t2,if_pos t3]
     obtain ⟨c,hc⟩ : ∃ c,c = ((b0 % 8 * 64 + b1 % 64) * 64 + b2 % 64) * 64 + b3 % 64:=⟨_,rfl⟩
     rw [← hc] at e1 ec
     by_cases g : c ≥ 65536 ∧ (c < 55296 ∨ (57344 ≤ c ∧ c ≤ 1114111))
     ·have e2 : decodeN n b0 b1 b2 b3 = (c,4):=by unfold decodeN;rw [if_neg a1,if_neg n1,if_neg n2,if_pos d,ec,if_pos g]
      rw [decide_eq_true g.1] at e1
      by_cases hcc : chrP c
      ·exact .inl ⟨_,4,e1,hcc,e2,by omega⟩
      ·exact .inr ⟨.inr (by rw [e1];exact hcc),.inr (by rw [e2];exact hcc)⟩
     ·have e2 : decodeN n b0 b1 b2 b3 = (65533,1):=by unfold decodeN;rw [if_neg a1,if_neg n1,if_neg n2,if_pos d,ec,if_neg g]
      refine .inr ⟨?_,.inl (by rw [e2];exact ⟨rfl,rfl⟩)⟩
      rw [e1]
      by_cases g2 : 65536 ≤ c
      ·right;unfold chrP;show ¬ _;omega
      ·left;exact decide_eq_false g2
    ·have e1 : oneN n b0 b1 b2 b3 = (0,0,false):=by unfold oneN;rw [if_neg a1,if_neg a2,if_neg a3,if_pos a4,if_pos t1,if_pos t2,if_neg t3]
     have e2 : decodeN n b0 b1 b2 b3 = (65533,1):=by
      unfold decodeN;rw [if_neg a1,if_neg n1,if_neg n2,if_neg (fun h => t3 h.2.2.2)]
     exact .inr ⟨.inl (by rw [e1]),.inl (by rw [e2];exact ⟨rfl,rfl⟩)⟩
   ·have e1 : oneN n b0 b1 b2 b3 = (0,0,false):=by unfold oneN;rw [if_neg a1,if_neg a2,if_neg a3,if_pos a4,if_pos t1,if_neg t2]
    have e2 : decodeN n b0 b1 b2 b3 = (65533,1):=by
     unfold decodeN;rw [if_neg a1,if_neg n1,if_neg n2,if_neg (fun h => t2 h.2.2.1)]
    exact .inr ⟨.inl (by rw [e1]),.inl (by rw [e2];exact ⟨rfl,rfl⟩)⟩
  ·have e1 : oneN n b0 b1 b2 b3 = (0,0,false):=by unfold oneN;rw [if_neg a1,if_neg a2,if_neg a3,if_pos a4,if_neg t1]
   have e2 : decodeN n b0 b1 b2 b3 = (65533,1):=by
    unfold decodeN;rw [if_neg a1,if_neg n1,if_neg n2,if_neg (fun h => t1 h.2.1)]
   exact .inr ⟨.inl (by rw [e1]),.inl (by rw [e2];exact ⟨rfl,rfl⟩)⟩
 ·have e1 : oneN n b0 b1 b2 b3 = (0,0,false):=by unfold oneN;rw [if_neg a1,if_neg a2,if_neg a3,if_neg a4]
  have e2 : decodeN n b0 b1 b2 b3 = (65533,1):=by
   unfold decodeN;rw [if_neg a1,if_neg (by omega),if_neg (by omega),if_neg (by omega)]
  exact .inr ⟨.inl (by rw [e1]),.inl (by rw [e2];exact ⟨rfl,rfl⟩)⟩

/-- the document's decoder at the head of a list of bytes -/
def oneL (l : List UInt8) : Nat × Nat × Bool:=oneN l.length (l.getD 0 0).toNat (l.getD 1 0).toNat (l.getD 2 0).toNat (l.getD 3 0).toNat
/-- is it a text, as the document says: as many steps as there is fuel -/
def ztxtF : Nat → List UInt8 → Bool
 | 0,l => l.isEmpty
 | f + 1,l => if l = [] then true else if (oneL l).2.2 = true ∧ chrP (oneL l).1 then ztxtF f (l.drop (oneL l).2.1) else false
def ztxt (l : List UInt8) : Bool:=ztxtF l.length l
theorem oneN_pos {n b0 b1 b2 b3 : Nat} (h : (oneN n b0 b1 b2 b3).2.2 = true) : 1 ≤ (oneN n b0 b1 b2 b3).2.1:=by
 unfold oneN at h ⊢
 repeat' split
 all_goals first | (simp only [];omega) | (exfalso;simp_all)
/-- the program's way: valid, and no character that is none of a text's -/
theorem txt_go (s : ByteArray) (f : Nat) : ∀ pos,s.size ≤ pos + f →
  ((validGoD f (s.data.toList.drop pos) = true ∧ idxFuncFrom (fun r => !chr r) true s f pos = -1) ↔ ztxtF f (s.data.toList.drop pos) = true):=by
 have hsz : s.size = s.data.toList.length:=size_eq s
 induction f with
 | zero =>
  intro pos h
  have : s.data.toList.drop pos = []:=List.drop_eq_nil_of_le (by omega)
  rw [this]
  exact ⟨fun _ => rfl,fun _ => ⟨rfl,rfl⟩⟩
 | succ f ih =>
  intro pos h
  show ((if s.data.toList.drop pos = [] then true else if (decodeL (s.data.toList.drop pos)).1 = 65533 ∧ (decodeL (s.data.toList.drop pos)).2 = 1 then false else validGoD f ((s.data.toList.drop pos).drop (decodeL (s.data.toList.drop pos)).2)) = true ∧
   (if pos < s.size then (if (!chr (Utf8.decode s pos).1) = true then (pos : Int) else idxFuncFrom (fun r => !chr r) true s f (pos + (Utf8.decode s pos).2)) else -1) = -1) ↔
   (if s.data.toList.drop pos = [] then true else if (oneL (s.data.toList.drop pos)).2.2 = true ∧ chrP (oneL (s.data.toList.drop pos)).1 then ztxtF f ((s.data.toList.drop pos).drop (oneL (s.data.toList.drop pos)).2.1) else false) = true
  by_cases hp : pos < s.size
  ·have hne : ¬ s.data.toList.drop pos = []:=fun e => by
    have:=congrArg List.length e
    rw [List.length_drop,List.length_nil] at this
    omega
   rw [if_neg hne,if_neg hne,if_pos hp,← decodeL_drop]
   obtain ⟨l,hl⟩ : ∃ l,l = s.data.toList.drop pos:=⟨_,rfl⟩
   rw [← hl]
   have hd:=decodeL_N l
   rcases one_dec (n:=l.length) (b1:=(l.getD 1 0).toNat) (b2:=(l.getD 2 0).toNat) (b3:=(l.getD 3 0).toNat) (UInt8.toNat_lt (l.getD 0 0)) with ⟨c,m,e1,e2,e3,e4⟩ | ⟨h1,h2⟩
   ·rw [e3] at hd
    have e1' : oneL l = (c,m,true):=e1
    have hm:=oneN_pos (n:=l.length) (b0:=(l.getD 0 0).toNat) (b1:=(l.getD 1 0).toNat) (b2:=(l.getD 2 0).toNat) (b3:=(l.getD 3 0).toNat) (by rw [e1])
    rw [e1] at hm
    rw [hd,e1',if_neg e4,if_neg (by unfold chr;rw [decide_eq_true e2];decide),if_pos ⟨rfl,e2⟩]
    have:=ih (pos + m) (by have : 1 ≤ m:=hm;omega)
    rw [hl,List.drop_drop]
    exact this
   ·have hd2 : ¬ ((oneL l).2.2 = true ∧ chrP (oneL l).1):=by
     rintro ⟨a,b⟩
     rcases h1 with h1 | h1
     ·have : (oneL l).2.2 = false:=h1
      rw [this] at a;cases a
     ·exact h1 b
    rw [if_neg hd2]
    rw [← hd] at h2
    constructor
    ·rintro ⟨g1,g2⟩
     exfalso
     rcases h2 with h2 | h2
     ·rw [if_pos h2] at g1;cases g1
     ·rw [if_pos (by unfold chr;rw [decide_eq_false h2];rfl)] at g2
      omega
    ·intro g;cases g
  ·have he : s.data.toList.drop pos = []:=List.drop_eq_nil_of_le (by omega)
   rw [if_pos he,if_pos he,if_neg hp]
   exact ⟨fun _ => rfl,fun _ => ⟨rfl,rfl⟩⟩
theorem ztxt_is (s : ByteArray) : (validD s.data.toList && decide (idxFunc (fun r => !chr r) true s < 0)) = ztxt s.data.toList:=by
 have h:=txt_go s s.size 0 (by omega)
 have hr:=idxFunc_range (fun r => !chr r) true s
 have hsz : s.size = s.data.toList.length:=size_eq s
 rw [List.drop_zero] at h
 rw [Bool.eq_iff_iff,Bool.and_eq_true,decide_eq_true_eq]
 unfold validD ztxt
 rw [← hsz]
 refine Iff.trans ⟨fun ⟨a,b⟩ => ⟨a, ?_⟩,fun ⟨a,b⟩ => ⟨a, ?_⟩⟩ h
 ·have : idxFunc (fun r => !chr r) true s = idxFuncFrom (fun r => !chr r) true s s.size 0:=rfl
  omega
 ·have : idxFunc (fun r => !chr r) true s = idxFuncFrom (fun r => !chr r) true s s.size 0:=rfl
  omega
end Go.Proofs.YtkjecoanlppeaaaGreatDoor



namespace Go.Proofs.YtkjecoanlppeaaaGreatDoor
open Go.RowKit

set_option maxHeartbeats 1000000 in
theorem char_any (r : Nat) (w : World) : Calls Tryz.prog 127 #[.int .i32 r] w fun e w' => e = .returned (.bool (chr r)) ∧ w = w':=by
 obtain ⟨z,hz⟩ : ∃ z,z = chr r:=⟨_,rfl⟩
 have hc : z = true ↔ chrP r:=by rw [hz];exact decide_eq_true_iff
 rw [← hz]
 have HC:=Far.mk hc
 clear hz hc
 go_enter Tryz.func127,Tryz.ntmps127
 go_wp2
 all_goals go_ret
 all_goals refine ⟨ret_bool ?_,rfl⟩
 all_goals rw [Bool.eq_iff_iff,HC.out]
 all_goals clear HC
 all_goals simp [chrP]
 all_goals (first | done | omega | (simp_all;done) | (simp_all;omega))
theorem closure_chr (w : World) : Go.Proofs.PredAt Tryz.prog 126 #[] Go.Proofs.encR (fun r => !chr r) w:=by
 intro W r hb
 have HK:=Lib.hid (char_any r W)
 show Calls Tryz.prog 126 #[.int .i32 r] W fun e w' => e = .returned (.bool (!chr r)) ∧ ∃ q,w' = W.drewN q
 generalize chr r = z at *
 go_enter Tryz.func126,Tryz.ntmps126
 go_wp2_with fail
 refine HK.out.mono ?_
 rintro _ _ ⟨rfl,rfl⟩
 go_wp2_with fail
 go_ret
 exact ⟨rfl,0,rfl⟩
/-- the keywords -/
def words : List (List UInt8):=[[97,110,100],[98,101,116,119,101,101,110],[101,108,115,101],[102,97,108,115,101],[105,102],[105,110],[110,111,116],[110,117,108,108],[111,114],[116,104,101,110],[116,114,117,101]]
set_option maxHeartbeats 1000000 in
theorem word_any (l : List UInt8) (w : World) : Calls Tryz.prog 88 #[.string ⟨l.toArray⟩] w fun e w' => e = .returned (.bool (words.contains l)) ∧ w = w':=by
 obtain ⟨z,hz⟩ : ∃ z,z = words.contains l:=⟨_,rfl⟩
 rw [← hz]
 have HZ:=Far.mk hz
 clear hz
 go_enter Tryz.func88,Tryz.ntmps88
 go_wp2
 all_goals go_ret
 all_goals refine ⟨ret_bool ?_,rfl⟩
 all_goals rw [HZ.out]
 all_goals clear HZ
 all_goals simp_all [words,List.contains_cons]
/-- a letter of a name -/
def ltr (c : UInt8) : Bool:=decide (97 ≤ c.toNat ∧ c.toNat ≤ 122 ∨ 65 ≤ c.toNat ∧ c.toNat ≤ 90 ∨ c.toNat = 95)
def dgt (c : UInt8) : Bool:=decide (48 ≤ c.toNat ∧ c.toNat ≤ 57)
/-- is it a name? -/
def nam (l : List UInt8) : Bool:=!l.isEmpty && decide (l.length ≤ 64) && !words.contains l && ltr (l.getD 0 0) && l.all fun c => ltr c || dgt c
theorem name_bad {l : List UInt8} (h : l = [] ∨ 64 < l.length ∨ words.contains l = true) : nam l = false:=by
 unfold nam
 rcases h with h | h | h
 ·subst h;rfl
 ·rw [decide_eq_false (by omega)];simp
 ·rw [h];simp
theorem name_at {l : List UInt8} {k : Nat} (hk : k < l.length) (h1 : ltr (l.getD k 0) = false) (h2 : k = 0 ∨ dgt (l.getD k 0) = false) : nam l = false:=by
 rw [Bool.eq_false_iff]
 intro hn
 unfold nam at hn
 simp only [Bool.and_eq_true] at hn
 rcases h2 with rfl | h2
 ·rw [h1] at hn;cases hn.1.2
 ·have:=List.all_eq_true.1 hn.2 (l.getD k 0) (by rw [List.getD_eq_getElem?_getD,List.getElem?_eq_getElem hk];exact List.getElem_mem _)
  rw [h1,h2] at this;cases this
theorem name_ok {l : List UInt8} (h1 : l ≠ []) (h2 : l.length ≤ 64) (h3 : words.contains l = false) (h : ∀ k,k < l.length → ltr (l.getD k 0) = true ∨ (k ≠ 0 ∧ dgt (l.getD k 0) = true)) : nam l = true:=by
 have hp : 0 < l.length:=List.length_pos_iff.2 h1
 have h0 : ltr (l.getD 0 0) = true:=by
  rcases h 0 hp with h | h
  ·exact h
  ·exact absurd rfl h.1
 unfold nam
 simp only [Bool.and_eq_true]
 refine ⟨⟨⟨⟨by simpa using h1,decide_eq_true h2⟩,by rw [h3];rfl⟩,h0⟩, ?_⟩
 rw [List.all_eq_true]
 intro c hc
 obtain ⟨k,hk,rfl⟩:=List.mem_iff_getElem.1 hc
 have:=h k hk
 rw [List.getD_eq_getElem?_getD,List.getElem?_eq_getElem hk] at this
 rw [Bool.or_eq_true]
 rcases this with h | h
 ·exact .inl h
 ·exact .inr h.2
set_option maxHeartbeats 1000000 in
theorem name_any (l : List UInt8) (hl : l.length ≤ 9223372036854775807) (w : World) : Calls Tryz.prog 62 #[.string ⟨l.toArray⟩] w fun e w' => e = .returned (.bool (nam l)) ∧ w = w':=by
 have HW:=Lib.hid (word_any l w)
 by_cases h1 : l = []
 ·have HE:=Lib.hid (name_bad (.inl h1))
  subst h1
  clear hl HW
  go_enter Tryz.func62,Tryz.ntmps62
  go_wp2_with fail
  go_ret
  exact ⟨rfl,rfl⟩
 by_cases h2 : 64 < l.length
 ·have HE:=Lib.hid (name_bad (.inr (.inl h2)))
  have e1 : l.isEmpty = false:=by simpa using h1
  have h2' : 64 < (l.length : Int):=by omega
  clear HW h2
  go_enter Tryz.func62,Tryz.ntmps62
  go_wp2_with fail
  go_ret
  exact ⟨ret_bool HE.out.symm,rfl⟩
 have e1 : l.isEmpty = false:=by simpa using h1
 have h2' : ¬ 64 < (l.length : Int):=by omega
 obtain ⟨z,hz⟩ : ∃ z,z = words.contains l:=⟨_,rfl⟩
 rw [← hz] at HW
 cases z with
 | true =>
  have HE:=Lib.hid (name_bad (.inr (.inr hz.symm)))
  clear hz h2
  go_enter Tryz.func62,Tryz.ntmps62
  go_wp2_with fail
  refine HW.out.mono ?_
  rintro _ _ ⟨rfl,rfl⟩
  go_wp2_with fail
  go_ret
  exact ⟨ret_bool HE.out.symm,rfl⟩
 | false =>
  have HZ:=Lib.hid hz.symm
  have H1:=Lib.hid h1
  have H2:=Lib.hid h2
  clear hz h2
  go_enter Tryz.func62,Tryz.ntmps62
  go_wp2_with fail
  refine HW.out.mono ?_
  rintro _ _ ⟨rfl,rfl⟩
  go_wp2_with fail
  go_loopg [19] l.length (fun k i wr => ∃ t : Nat,k + t = l.length ∧ i = .int .i64 t ∧ Hid (∀ k,k < t → ltr (l.getD k 0) = true ∨ (k ≠ 0 ∧ dgt (l.getD k 0) = true)) ∧ w = wr)
  case atStart => exact ⟨0,by omega,rfl,Lib.hid (fun k hk => absurd hk (Nat.not_lt_zero _)),rfl⟩
  case round =>
   obtain ⟨t,hk,rfl,HA,rfl⟩:=hrel
   have HK:=Lib.hid hk
   have htn : t ≤ l.length:=by omega
   clear hk
   by_cases hlt : t < l.length
   ·have hs : t < (⟨l.toArray⟩ : ByteArray).size:=by show t < l.toArray.size;simpa using hlt
    have hc : (⟨l.toArray⟩ : ByteArray)[t] = l.getD t 0:=by
     rw [List.getD_eq_getElem?_getD,List.getElem?_eq_getElem hlt];rfl
    have hu:=UInt8.toNat_lt (l.getD t 0)
    have hcase : (97 ≤ (l.getD t 0).toNat ∧ (l.getD t 0).toNat ≤ 122) ∨ (65 ≤ (l.getD t 0).toNat ∧ (l.getD t 0).toNat ≤ 90) ∨ (95 ≤ (l.getD t 0).toNat ∧ (l.getD t 0).toNat ≤ 95) ∨ (0 ≤ (l.getD t 0).toNat ∧ (l.getD t 0).toNat ≤ 47) ∨ (48 ≤ (l.getD t 0).toNat ∧ (l.getD t 0).toNat ≤ 57) ∨ (58 ≤ (l.getD t 0).toNat ∧ (l.getD t 0).toNat ≤ 64) ∨ (91 ≤ (l.getD t 0).toNat ∧ (l.getD t 0).toNat ≤ 94) ∨ (96 ≤ (l.getD t 0).toNat ∧ (l.getD t 0).toNat ≤ 96) ∨ (123 ≤ (l.getD t 0).toNat ∧ (l.getD t 0).toNat ≤ 255):=by omega
    rcases hcase with hcase | hcase | hcase | hcase | hcase | hcase | hcase | hcase | hcase
    ·obtain ⟨h1c,h2c⟩:=hcase
     have HY : Hid (ltr (l.getD t 0) = true ∨ (t ≠ 0 ∧ dgt (l.getD t 0) = true)):=Lib.hid (.inl (by unfold ltr;exact decide_eq_true (by omega)))
     have d1 : (97 : Int) ≤ ((⟨l.toArray⟩ : ByteArray)[t].toNat : Int):=by rw [hc];have:=h1c;omega
     have d2 : ((⟨l.toArray⟩ : ByteArray)[t].toNat : Int) ≤ (122 : Int):=by rw [hc];have:=h2c;omega
     have d3 : (((⟨l.toArray⟩ : ByteArray)[t].toNat : Int) == 95) = false:=by rw [hc];first | (rw [beq_eq_false_iff_ne];omega) | (rw [beq_iff_eq];omega)
     clear h1c h2c hc
     go_wp2_with fail
     go_roundg (gk - 1)
     case measure => have:=HK.out;omega
     case rel =>
      refine ⟨t + 1,by have:=HK.out;omega,by go_num,Lib.hid fun k hk => ?_,rfl⟩
      by_cases e : k = t
      ·subst e;exact HY.out
      ·exact HA.out k (by omega)
    ·obtain ⟨h1c,h2c⟩:=hcase
     have HY : Hid (ltr (l.getD t 0) = true ∨ (t ≠ 0 ∧ dgt (l.getD t 0) = true)):=Lib.hid (.inl (by unfold ltr;exact decide_eq_true (by omega)))
     have d1 : (65 : Int) ≤ ((⟨l.toArray⟩ : ByteArray)[t].toNat : Int):=by rw [hc];have:=h1c;omega
     have d2 : ((⟨l.toArray⟩ : ByteArray)[t].toNat : Int) ≤ (90 : Int):=by rw [hc];have:=h2c;omega
     have d3 : (((⟨l.toArray⟩ : ByteArray)[t].toNat : Int) == 95) = false:=by rw [hc];first | (rw [beq_eq_false_iff_ne];omega) | (rw [beq_iff_eq];omega)
     clear h1c h2c hc
     go_wp2_with fail
     go_roundg (gk - 1)
     case measure => have:=HK.out;omega
     case rel =>
      refine ⟨t + 1,by have:=HK.out;omega,by go_num,Lib.hid fun k hk => ?_,rfl⟩
      by_cases e : k = t
      ·subst e;exact HY.out
      ·exact HA.out k (by omega)
    ·obtain ⟨h1c,h2c⟩:=hcase
     have HY : Hid (ltr (l.getD t 0) = true ∨ (t ≠ 0 ∧ dgt (l.getD t 0) = true)):=Lib.hid (.inl (by unfold ltr;exact decide_eq_true (by omega)))
     have d1 : (95 : Int) ≤ ((⟨l.toArray⟩ : ByteArray)[t].toNat : Int):=by rw [hc];have:=h1c;omega
     have d2 : ((⟨l.toArray⟩ : ByteArray)[t].toNat : Int) ≤ (95 : Int):=by rw [hc];have:=h2c;omega
     have d3 : (((⟨l.toArray⟩ : ByteArray)[t].toNat : Int) == 95) = true:=by rw [hc];first | (rw [beq_eq_false_iff_ne];omega) | (rw [beq_iff_eq];omega)
     clear h1c h2c hc
     go_wp2_with fail
     go_roundg (gk - 1)
     case measure => have:=HK.out;omega
     case rel =>
      refine ⟨t + 1,by have:=HK.out;omega,by go_num,Lib.hid fun k hk => ?_,rfl⟩
      by_cases e : k = t
      ·subst e;exact HY.out
      ·exact HA.out k (by omega)
    ·obtain ⟨h1c,h2c⟩:=hcase
     have HE:=Lib.hid (name_at hlt (by unfold ltr;exact decide_eq_false (by omega)) (.inr (by unfold dgt;exact decide_eq_false (by omega))))
     have d1 : (0 : Int) ≤ ((⟨l.toArray⟩ : ByteArray)[t].toNat : Int):=by rw [hc];have:=h1c;omega
     have d2 : ((⟨l.toArray⟩ : ByteArray)[t].toNat : Int) ≤ (47 : Int):=by rw [hc];have:=h2c;omega
     have d3 : (((⟨l.toArray⟩ : ByteArray)[t].toNat : Int) == 95) = false:=by rw [hc];first | (rw [beq_eq_false_iff_ne];omega) | (rw [beq_iff_eq];omega)
     clear h1c h2c hc
     have tz : (t : Int) = 0 ∨ ¬ (t : Int) = 0:=by omega
     rcases tz with tz | tz
     ·obtain rfl : t = 0:=by omega
      clear tz
      go_wp2_with fail
      go_ret
      exact ⟨ret_bool HE.out.symm,rfl⟩
     ·have tz' : ((t : Int) == 0) = false:=by simpa using tz
      go_wp2_with fail
      go_ret
      exact ⟨ret_bool HE.out.symm,rfl⟩
    ·obtain ⟨h1c,h2c⟩:=hcase
     by_cases tz : t = 0
     ·have HE:=Lib.hid (name_at hlt (by unfold ltr;exact decide_eq_false (by omega)) (.inl tz))
      have d1 : (48 : Int) ≤ ((⟨l.toArray⟩ : ByteArray)[t].toNat : Int):=by rw [hc];have:=h1c;omega
      have d2 : ((⟨l.toArray⟩ : ByteArray)[t].toNat : Int) ≤ (57 : Int):=by rw [hc];have:=h2c;omega
      have d3 : (((⟨l.toArray⟩ : ByteArray)[t].toNat : Int) == 95) = false:=by rw [hc];first | (rw [beq_eq_false_iff_ne];omega) | (rw [beq_iff_eq];omega)
      clear h1c h2c hc
      subst tz
      go_wp2_with fail
      go_ret
      exact ⟨ret_bool HE.out.symm,rfl⟩
     ·have HY : Hid (ltr (l.getD t 0) = true ∨ (t ≠ 0 ∧ dgt (l.getD t 0) = true)):=Lib.hid (.inr ⟨tz,by unfold dgt;exact decide_eq_true (by omega)⟩)
      have d1 : (48 : Int) ≤ ((⟨l.toArray⟩ : ByteArray)[t].toNat : Int):=by rw [hc];have:=h1c;omega
      have d2 : ((⟨l.toArray⟩ : ByteArray)[t].toNat : Int) ≤ (57 : Int):=by rw [hc];have:=h2c;omega
      have d3 : (((⟨l.toArray⟩ : ByteArray)[t].toNat : Int) == 95) = false:=by rw [hc];first | (rw [beq_eq_false_iff_ne];omega) | (rw [beq_iff_eq];omega)
      clear h1c h2c hc
      have tz' : ((t : Int) == 0) = false:=by simpa using tz
      go_wp2_with fail
      go_roundg (gk - 1)
      case measure => have:=HK.out;omega
      case rel =>
       refine ⟨t + 1,by have:=HK.out;omega,by go_num,Lib.hid fun k hk => ?_,rfl⟩
       by_cases e : k = t
       ·subst e;exact HY.out
       ·exact HA.out k (by omega)
    ·obtain ⟨h1c,h2c⟩:=hcase
     have HE:=Lib.hid (name_at hlt (by unfold ltr;exact decide_eq_false (by omega)) (.inr (by unfold dgt;exact decide_eq_false (by omega))))
     have d1 : (58 : Int) ≤ ((⟨l.toArray⟩ : ByteArray)[t].toNat : Int):=by rw [hc];have:=h1c;omega
     have d2 : ((⟨l.toArray⟩ : ByteArray)[t].toNat : Int) ≤ (64 : Int):=by rw [hc];have:=h2c;omega
     have d3 : (((⟨l.toArray⟩ : ByteArray)[t].toNat : Int) == 95) = false:=by rw [hc];first | (rw [beq_eq_false_iff_ne];omega) | (rw [beq_iff_eq];omega)
     clear h1c h2c hc
     have tz : (t : Int) = 0 ∨ ¬ (t : Int) = 0:=by omega
     rcases tz with tz | tz
     ·obtain rfl : t = 0:=by omega
      clear tz
      go_wp2_with fail
      go_ret
      exact ⟨ret_bool HE.out.symm,rfl⟩
     ·have tz' : ((t : Int) == 0) = false:=by simpa using tz
      go_wp2_with fail
      go_ret
      exact ⟨ret_bool HE.out.symm,rfl⟩
    ·obtain ⟨h1c,h2c⟩:=hcase
     have HE:=Lib.hid (name_at hlt (by unfold ltr;exact decide_eq_false (by omega)) (.inr (by unfold dgt;exact decide_eq_false (by omega))))
     have d1 : (91 : Int) ≤ ((⟨l.toArray⟩ : ByteArray)[t].toNat : Int):=by rw [hc];have:=h1c;omega
     have d2 : ((⟨l.toArray⟩ : ByteArray)[t].toNat : Int) ≤ (94 : Int):=by rw [hc];have:=h2c;omega
     have d3 : (((⟨l.toArray⟩ : ByteArray)[t].toNat : Int) == 95) = false:=by rw [hc];first | (rw [beq_eq_false_iff_ne];omega) | (rw [beq_iff_eq];omega)
     clear h1c h2c hc
     have d4 : decide (((⟨l.toArray⟩ : ByteArray)[t].toNat : Int) ≤ 90) = false:=decide_eq_false (by omega)
     have tz : (t : Int) = 0 ∨ ¬ (t : Int) = 0:=by omega
     rcases tz with tz | tz
     ·obtain rfl : t = 0:=by omega
      clear tz
      go_wp2_with fail
      go_ret
      exact ⟨ret_bool HE.out.symm,rfl⟩
     ·have tz' : ((t : Int) == 0) = false:=by simpa using tz
      go_wp2_with fail
      go_ret
      exact ⟨ret_bool HE.out.symm,rfl⟩
    ·obtain ⟨h1c,h2c⟩:=hcase
     have HE:=Lib.hid (name_at hlt (by unfold ltr;exact decide_eq_false (by omega)) (.inr (by unfold dgt;exact decide_eq_false (by omega))))
     have d1 : (96 : Int) ≤ ((⟨l.toArray⟩ : ByteArray)[t].toNat : Int):=by rw [hc];have:=h1c;omega
     have d2 : ((⟨l.toArray⟩ : ByteArray)[t].toNat : Int) ≤ (96 : Int):=by rw [hc];have:=h2c;omega
     have d3 : (((⟨l.toArray⟩ : ByteArray)[t].toNat : Int) == 95) = false:=by rw [hc];first | (rw [beq_eq_false_iff_ne];omega) | (rw [beq_iff_eq];omega)
     clear h1c h2c hc
     have d4 : decide (((⟨l.toArray⟩ : ByteArray)[t].toNat : Int) ≤ 90) = false:=decide_eq_false (by omega)
     have tz : (t : Int) = 0 ∨ ¬ (t : Int) = 0:=by omega
     rcases tz with tz | tz
     ·obtain rfl : t = 0:=by omega
      clear tz
      go_wp2_with fail
      go_ret
      exact ⟨ret_bool HE.out.symm,rfl⟩
     ·have tz' : ((t : Int) == 0) = false:=by simpa using tz
      go_wp2_with fail
      go_ret
      exact ⟨ret_bool HE.out.symm,rfl⟩
    ·obtain ⟨h1c,h2c⟩:=hcase
     have HE:=Lib.hid (name_at hlt (by unfold ltr;exact decide_eq_false (by omega)) (.inr (by unfold dgt;exact decide_eq_false (by omega))))
     have d1 : (123 : Int) ≤ ((⟨l.toArray⟩ : ByteArray)[t].toNat : Int):=by rw [hc];have:=h1c;omega
     have d2 : ((⟨l.toArray⟩ : ByteArray)[t].toNat : Int) ≤ (255 : Int):=by rw [hc];have:=h2c;omega
     have d3 : (((⟨l.toArray⟩ : ByteArray)[t].toNat : Int) == 95) = false:=by rw [hc];first | (rw [beq_eq_false_iff_ne];omega) | (rw [beq_iff_eq];omega)
     clear h1c h2c hc
     have d4 : decide (((⟨l.toArray⟩ : ByteArray)[t].toNat : Int) ≤ 90) = false:=decide_eq_false (by omega)
     have d5 : decide (((⟨l.toArray⟩ : ByteArray)[t].toNat : Int) ≤ 122) = false:=decide_eq_false (by omega)
     have tz : (t : Int) = 0 ∨ ¬ (t : Int) = 0:=by omega
     rcases tz with tz | tz
     ·obtain rfl : t = 0:=by omega
      clear tz
      go_wp2_with fail
      go_ret
      exact ⟨ret_bool HE.out.symm,rfl⟩
     ·have tz' : ((t : Int) == 0) = false:=by simpa using tz
      go_wp2_with fail
      go_ret
      exact ⟨ret_bool HE.out.symm,rfl⟩
   ·have HE:=Lib.hid (name_ok H1.out (by have:=H2.out;omega) HZ.out (fun k hk => HA.out k (by omega)))
    go_wp2_with fail
    go_ret
    exact ⟨ret_bool HE.out.symm,rfl⟩
end Go.Proofs.YtkjecoanlppeaaaGreatDoor



namespace Go.Proofs.YtkjecoanlppeaaaGreatDoor
open Go.RowKit

def lcells (m : Nat) : List Value:=(List.range 4).map fun j => .int .u64 (wd m j)
theorem lcells_eq (m : Nat) : lcells m = [.int .u64 (wd m 0),.int .u64 (wd m 1),.int .u64 (wd m 2),.int .u64 (wd m 3)]:=rfl
theorem lcells_at (m j : Nat) (hj : j < 4) : (lcells m)[j]? = some (.int .u64 (wd m j)):=by
 unfold lcells
 rw [List.getElem?_map,List.getElem?_range hj];rfl
theorem lcells_set (V j : Nat) (hj : j < 4) (hV : V < 2 ^ 256) (v : Int) (h0 : 0 ≤ v) (h1 : v < 18446744073709551616) :
  ∃ V' : Nat,V' < 2 ^ 256 ∧ (V' : Int) = V + (v - wd V j) * ((2 ^ (64 * j) : Nat) : Int) ∧ (lcells V).set j (.int .u64 v) = lcells V' ∧ (∀ i,i < 4 → i ≠ j → wd V' i = wd V i) ∧ wd V' j = v:=by
 have hf:=wd_four hV
 have a0:=wd_nn V 0
 have a1:=wd_lt V 0
 have b0:=wd_nn V 1
 have b1:=wd_lt V 1
 have c0:=wd_nn V 2
 have c1:=wd_lt V 2
 have d0:=wd_nn V 3
 have d1:=wd_lt V 3
 have key : ∀ (x0 x1 x2 x3 : Int),0 ≤ x0 → x0 < 18446744073709551616 → 0 ≤ x1 → x1 < 18446744073709551616 → 0 ≤ x2 → x2 < 18446744073709551616 → 0 ≤ x3 → x3 < 18446744073709551616 →
   ∃ V' : Nat,V' < 2 ^ 256 ∧ (V' : Int) = x3 * 6277101735386680763835789423207666416102355444464034512896 + x2 * 340282366920938463463374607431768211456 + x1 * 18446744073709551616 + x0 ∧ x0 = wd V' 0 ∧ x1 = wd V' 1 ∧ x2 = wd V' 2 ∧ x3 = wd V' 3:=by
  intro x0 x1 x2 x3 e0 e1 e2 e3 e4 e5 e6 e7
  refine ⟨(x3 * 6277101735386680763835789423207666416102355444464034512896 + x2 * 340282366920938463463374607431768211456 + x1 * 18446744073709551616 + x0).toNat,by omega,by omega, ?_⟩
  exact wd_of4 _ x0 x1 x2 x3 e0 e1 e2 e3 e4 e5 e6 e7 (by omega)
 have hc : j = 0 ∨ j = 1 ∨ j = 2 ∨ j = 3:=by omega
 rcases hc with rfl | rfl | rfl | rfl
 ·obtain ⟨V',g1,g2,e0,e1,e2,e3⟩:=key v (wd V 1) (wd V 2) (wd V 3) h0 h1 b0 b1 c0 c1 d0 d1
  refine ⟨V',g1, ?_, ?_, ?_,e0.symm⟩
  ·rw [g2];omega
  ·rw [lcells_eq,lcells_eq,← e0,← e1,← e2,← e3];rfl
  ·intro i hi hne
   have hc : i = 1 ∨ i = 2 ∨ i = 3:=by omega
   rcases hc with rfl | rfl | rfl
   ·exact e1.symm
   ·exact e2.symm
   ·exact e3.symm
 ·obtain ⟨V',g1,g2,e0,e1,e2,e3⟩:=key (wd V 0) v (wd V 2) (wd V 3) a0 a1 h0 h1 c0 c1 d0 d1
  refine ⟨V',g1, ?_, ?_, ?_,e1.symm⟩
  ·rw [g2];omega
  ·rw [lcells_eq,lcells_eq,← e0,← e1,← e2,← e3];rfl
  ·intro i hi hne
   have hc : i = 0 ∨ i = 2 ∨ i = 3:=by omega
   rcases hc with rfl | rfl | rfl
   ·exact e0.symm
   ·exact e2.symm
   ·exact e3.symm
 ·obtain ⟨V',g1,g2,e0,e1,e2,e3⟩:=key (wd V 0) (wd V 1) v (wd V 3) a0 a1 b0 b1 h0 h1 d0 d1
  refine ⟨V',g1, ?_, ?_, ?_,e2.symm⟩
  ·rw [g2];omega
  ·rw [lcells_eq,lcells_eq,← e0,← e1,← e2,← e3];rfl
  ·intro i hi hne
   have hc : i = 0 ∨ i = 1 ∨ i = 3:=by omega
   rcases hc with rfl | rfl | rfl
   ·exact e0.symm
   ·exact e1.symm
   ·exact e3.symm
 ·obtain ⟨V',g1,g2,e0,e1,e2,e3⟩:=key (wd V 0) (wd V 1) (wd V 2) v a0 a1 b0 b1 c0 c1 h0 h1
  refine ⟨V',g1, ?_, ?_, ?_,e3.symm⟩
  ·rw [g2];omega
  ·rw [lcells_eq,lcells_eq,← e0,← e1,← e2,← e3];rfl
  ·intro i hi hne
   have hc : i = 0 ∨ i = 1 ∨ i = 2:=by omega
   rcases hc with rfl | rfl | rfl
   ·exact e0.symm
   ·exact e1.symm
   ·exact e2.symm
theorem wd_past {V k j : Nat} (h : V < 2 ^ (64 * k)) (hj : k ≤ j) : wd V j = 0:=by
 unfold wd
 rw [Nat.div_eq_of_lt (Nat.lt_of_lt_of_le h (Nat.pow_le_pow_right (by decide) (by omega)))];rfl
/-- one word more of a number from below -/
theorem wd_mod_succ (n t : Nat) : ((n % 2 ^ (64 * (t + 1)) : Nat) : Int) = ((n % 2 ^ (64 * t) : Nat) : Int) + wd n t * ((2 ^ (64 * t) : Nat) : Int):=by
 unfold wd
 rw [show 64 * (t + 1) = 64 * t + 64 by omega,Nat.pow_add,Nat.mod_mul,Int.natCast_add,Int.natCast_mul,Int.mul_comm]
end Go.Proofs.YtkjecoanlppeaaaGreatDoor



namespace Go.Proofs.YtkjecoanlppeaaaGreatDoor
open Go.RowKit
theorem eq_wide (a b c d : Int) (W : World) : (binOp .eql 30 (.agg #[.int .u64 a,.int .u64 b]) (.agg #[.int .u64 c,.int .u64 d])).run Tryz.prog W = .ok (.bool ((a == c) && (b == d))) W:=by
 go_simp
 by_cases h0 : a = c <;> by_cases h1 : b = d <;> simp [h0,h1]
end Go.Proofs.YtkjecoanlppeaaaGreatDoor



namespace Go.Proofs.YtkjecoanlppeaaaGreatDoor

def dval : List Int → Int
 | [] => 0
 | d :: r => d + 10 * dval r
def Digs (l : List Int) : Prop:=∀ d ∈ l,0 ≤ d ∧ d ≤ 9
def Top (l : List Int) : Prop:=l.getLast? ≠ some 0
/-- l is the list of the digits of n, the least first, without noughts at the top. -/
def IsDg (l : List Int) (n : Nat) : Prop:=Digs l ∧ Top l ∧ dval l = (n : Int)

theorem Digs.nil : Digs []:=by intro d h;cases h
theorem Digs.snoc {a : List Int} {x : Int} (h : Digs a) (h0 : 0 ≤ x) (h1 : x ≤ 9) : Digs (a ++ [x]):=by
 intro d hd
 rcases List.mem_append.1 hd with hd | hd
 ·exact h d hd
 ·rw [List.mem_singleton.1 hd];exact ⟨h0,h1⟩
theorem Digs.take {a : List Int} (h : Digs a) (k : Nat) : Digs (a.take k):=fun d hd => h d (List.mem_of_mem_take hd)
theorem Digs.drop {a : List Int} (h : Digs a) (k : Nat) : Digs (a.drop k):=fun d hd => h d (List.mem_of_mem_drop hd)
theorem Digs.append {a b : List Int} (h : Digs a) (h' : Digs b) : Digs (a ++ b):=by
 intro d hd
 rcases List.mem_append.1 hd with hd | hd
 ·exact h d hd
 ·exact h' d hd
theorem IsDg.nil : IsDg [] 0:=⟨Digs.nil,by simp [Top],rfl⟩
theorem Digs.set_ {l : List Int} (h : Digs l) (k : Nat) {x : Int} (h0 : 0 ≤ x) (h1 : x ≤ 9) : Digs (l.set k x):=by
 intro d hd
 rcases List.mem_or_eq_of_mem_set hd with hd | rfl
 ·exact h d hd
 ·exact ⟨h0,h1⟩
theorem Digs.zeros (n : Nat) : Digs (List.replicate n 0):=by
 intro d hd
 rw [List.eq_of_mem_replicate hd]
 decide
end Go.Proofs.YtkjecoanlppeaaaGreatDoor



namespace Go.Proofs.YtkjecoanlppeaaaGreatDoor

theorem pow_lt10 {a b : Nat} (h : (10 : Nat) ^ a < 10 ^ b) : a < b:=(Nat.pow_lt_pow_iff_right (by decide)).1 h
end Go.Proofs.YtkjecoanlppeaaaGreatDoor



namespace Go.Proofs.YtkjecoanlppeaaaGreatDoor
open Go.RowKit

def dayB (d : Int) : Bool:=decide (1 ≤ d ∧ d ≤ 3652059)
end Go.Proofs.YtkjecoanlppeaaaGreatDoor



namespace Go.Proofs.YtkjecoanlppeaaaGreatDoor
open Go.RowKit

/-- from address A on lie, in a block of ints, the numbers xs (nothing is said where there are none) -/
def Sl (w : World) (A : Option Addr) (xs : List Int) : Prop :=
 xs ≠ [] → ∃ g o cs,A = some ⟨g,o,none⟩ ∧ Bk w g 3 cs ∧ ∀ j,j < xs.length → cs[o + j]? = some (.int .i64 (xs.getD j 0))
def IsSl (w : World) (v : Value) (xs : List Int) : Prop:=∃ A c,v = .slice A xs.length c ∧ xs.length ≤ c ∧ Sl w A xs
/-- v holds the digits of n, the least first -/
def Dg (w : World) (v : Value) (n : Nat) : Prop:=∃ xs,IsSl w v xs ∧ IsDg xs n
section
variable {w w' : World} {A : Option Addr} {xs : List Int} {v : Value} {n B : Nat}
theorem Sl.below (h : Sl w A xs) (hb : Below w.heap.size w w') : Sl w' A xs:=fun hne => by
 obtain ⟨g,o,cs,e,hg,hc⟩:=h hne
 exact ⟨g,o,cs,e,hg.below hb hg.lt,hc⟩
theorem Sl.far (h : Sl w A xs) {b : Nat} {T : TypeId} {ds : List Value} (hb : Bk w b T ds) (hT : 3 ≠ T) (i : Nat) (u : Value) : Sl (w.setCell ⟨b,i,none⟩ u) A xs:=fun hne => by
 obtain ⟨g,o,cs,e,hg,hc⟩:=h hne
 refine ⟨g,o,cs,e,hg.far ?_ u,hc⟩
 rintro rfl
 unfold Bk at hg hb
 rw [hg] at hb
 injection hb with hb
 injection hb with _ ht
 exact hT ht
theorem IsSl.below (h : IsSl w v xs) (hb : Below w.heap.size w w') : IsSl w' v xs:=by
 obtain ⟨A,c,e,hc,hs⟩:=h
 exact ⟨A,c,e,hc,hs.below hb⟩
theorem Dg.below (h : Dg w v n) (hb : Below w.heap.size w w') : Dg w' v n:=by
 obtain ⟨xs,hs,hd⟩:=h
 exact ⟨xs,hs.below hb,hd⟩
theorem Dg.far (h : Dg w v n) {b : Nat} {T : TypeId} {ds : List Value} (hb : Bk w b T ds) (hT : 3 ≠ T) (i : Nat) (u : Value) : Dg (w.setCell ⟨b,i,none⟩ u) v n:=by
 obtain ⟨xs,⟨A,c,e,hc,hs⟩,hd⟩:=h
 exact ⟨xs,⟨A,c,e,hc,hs.far hb hT i u⟩,hd⟩
theorem Dg.drew (h : Dg w v n) : Dg w.drew v n:=h
theorem Dg.drewN (h : Dg w v n) (k : Nat) : Dg (w.drewN k) v n:=h
theorem Sl.take (h : Sl w A xs) (k : Nat) : Sl w A (xs.take k):=fun hne => by
 have hx : xs ≠ []:=fun e => hne (by rw [e];simp)
 obtain ⟨g,o,cs,e,hg,hc⟩:=h hx
 refine ⟨g,o,cs,e,hg,fun j hj => ?_⟩
 rw [List.length_take] at hj
 rw [hc j (by omega),List.getD_eq_getElem?_getD,List.getD_eq_getElem?_getD,List.getElem?_take_of_lt (by omega)]
/-- the cell at a place -/
theorem Sl.at_ (h : Sl w A xs) {k : Nat} (hk : k < xs.length) : ∃ g o,A = some ⟨g,o,none⟩ ∧ g < w.heap.size ∧ w.cell? ⟨g,o + k,none⟩ = some (.int .i64 (xs.getD k 0)):=by
 obtain ⟨g,o,cs,e,hg,hc⟩:=h (by intro e;subst e;simp at hk)
 exact ⟨g,o,e,hg.lt,hg.cell _ (hc k hk)⟩
end

/-- where it has an address, it lies from block B on -/
def New (B : Nat) (v : Value) : Prop:=∀ g o p n c,v = .slice (some ⟨g,o,p⟩) n c → B ≤ g
theorem New.mono {B C : Nat} {v : Value} (h : New C v) (hb : B ≤ C) : New B v:=fun g o p n c e => Nat.le_trans hb (h g o p n c e)
theorem New.nil (B n c : Nat) : New B (.slice none n c):=by intro g o p n c e;cases e
theorem New.same {B : Nat} {A : Option Addr} {n c : Nat} (h : New B (.slice A n c)) (k d : Nat) : New B (.slice A k d):=by
 intro g o p n' c' e;injection e with e1 e2 e3;subst e1;exact h g o p n c rfl
theorem New.at_ {B g : Nat} (h : B ≤ g) (o : Nat) (p : Option Nat) (n c : Nat) : New B (.slice (some ⟨g,o,p⟩) n c):=by
 intro g' o' p' n' c' e;injection e with e1 e2 e3;injection e1 with e1;injection e1 with e1;subst e1;exact h
theorem New.own {w : World} {B : Nat} {E : TypeId} {v : Value} {n : Nat} {xs : List Value} (h : w.ownsRow B E 1 v n xs) : New B v:=by
 rcases h.2 with ⟨rfl,_⟩ | ⟨g,cap,cur,rfl,hg,_⟩
 ·exact New.nil _ _ _
 ·exact New.at_ hg _ _ _ _
end Go.Proofs.YtkjecoanlppeaaaGreatDoor



namespace Go.Proofs.YtkjecoanlppeaaaGreatDoor
open Go.RowKit

set_option maxRecDepth 100000 in
set_option maxHeartbeats 4000000 in
theorem rcount_any (d : VD) (A : Option Addr) (C : Nat) (A2 : Option Addr) (C2 : Nat) (most : Int) (w : World) (h0 : 0 ≤ most) (h1 : most ≤ 1000000) (h : RV w (.slice A d.list.length C) (.slice A2 d.names.length C2) d) (hsz : d.size ≤ 1048576) :
  Calls Tryz.prog 25 #[vagg d.s (.slice A d.list.length C) (.slice A2 d.names.length C2),.int .i64 most] w fun e w' => e = .returned (.int .i64 (cnt d.size most)) ∧ Below w.heap.size w w':=by
 have hb0 : Below w.heap.size w (w.alloc (vobj d.s (.slice A d.list.length C) (.slice A2 d.names.length C2))):=(Below.refl _ _).alloc (Nat.le_refl _) _
 have hone:=vls_one (h.below hb0)
 rw [World.size_alloc] at hone
 obtain ⟨S,hS⟩ : ∃ S,S = d.size:=⟨_,rfl⟩
 have hsum : sizes [d] = S:=by rw [hS];simp [sizes]
 rw [← hS] at hsz ⊢
 have hS1 : 1 ≤ S:=by rw [hS];exact size_pos d
 obtain ⟨z,hz⟩ : ∃ z,z = cnt S most:=⟨_,rfl⟩
 rw [← hz]
 have HZ:=Lib.hid hz
 have HONE:=Lib.hid hone
 have HSUM:=Lib.hid hsum
 obtain ⟨s,l0,nm0⟩:=d
 unfold vobj at HONE
 unfold vagg
 obtain ⟨kind,yes,neg,coef,sc,text,day⟩:=s
 dsimp only [VD.s,VD.list,VD.names] at HONE ⊢
 obtain ⟨n1,hn1⟩ : ∃ n1,n1 = l0.length:=⟨_,rfl⟩
 obtain ⟨n2,hn2⟩ : ∃ n2,n2 = nm0.length:=⟨_,rfl⟩
 rw [← hn1,← hn2] at HONE ⊢
 obtain ⟨x1,hx1⟩ : ∃ x1,x1 = wd coef 1:=⟨_,rfl⟩
 obtain ⟨x0,hx0⟩ : ∃ x0,x0 = wd coef 0:=⟨_,rfl⟩
 rw [← hx1,← hx0] at HONE ⊢
 clear hb0 hone hS hsum hz h hn1 hn2 hx1 hx0
 obtain ⟨LD,hLD⟩ : ∃ LD,LD = [VD.mk ⟨kind,yes,neg,coef,sc,text,day⟩ l0 nm0]:=⟨_,rfl⟩
 rw [← hLD] at HONE HSUM
 have HNE : Hid (LD ≠ []):=Lib.hid (by rw [hLD];simp)
 clear hLD
 obtain ⟨w0,hw0⟩ : ∃ w0,w0 = (w.alloc (.cells #[.int .i64 kind,.bool yes,.bool neg,.int .u64 x1,.int .u64 x0,.int .i64 sc,.string ⟨text.toArray⟩,.int .i64 day,.slice A n1 C,.slice A2 n2 C2] 34)).alloc (.cells #[.int .i64 kind,.bool yes,.bool neg,.int .u64 x1,.int .u64 x0,.int .i64 sc,.string ⟨text.toArray⟩,.int .i64 day,.slice A n1 C,.slice A2 n2 C2] 34):=⟨_,rfl⟩
 rw [← hw0] at HONE
 have hbw : Below w.heap.size w w0:=by rw [hw0];exact ((Below.refl _ _).alloc (Nat.le_refl _) _).alloc (by simp) _
 have hz0 : w0.heap.size = w.heap.size + 1 + 1:=by rw [hw0,World.size_alloc,World.size_alloc]
 have HW0:=Lib.hid hw0
 clear hw0
 go_enter Tryz.func25,Tryz.ntmps25
 go_wp2_with fail
 rw [← HW0.out]
 go_loopg [5,6] (most + 1).toNat (fun k s5 s6 wr => ∃ (n : Int) (vs : List Value) (td : List (List VD)),n + k = most + 1 ∧ 0 ≤ n ∧ s5 = .int .i64 n ∧ wr.ownsRow w0.heap.size 24 1 s6 td.length vs ∧ Hid (Stk w0 vs td) ∧ Hid ((n ≤ most → n + tots td = S) ∧ (most < n → most < S)) ∧ w0.heap.size ≤ wr.heap.size ∧ Below w0.heap.size w0 wr)
 case atStart => 
  refine ⟨0,[.slice (some ⟨w.heap.size + 1,0,none⟩) 1 1],[LD],by omega,by omega,rfl, ?_,Lib.hid (Stk.nil.snoc HONE.out HNE.out),Lib.hid ⟨fun _ => ?_,fun _ => by omega⟩,by simp,(Below.refl _ _).alloc (Nat.le_refl _) _⟩
  ·exact ⟨rfl,.inr ⟨w0.heap.size,1,#[.slice (some ⟨w.heap.size + 1,0,none⟩) 1 1],by rw [hz0];rfl,Nat.le_refl _,Bk.new w0 24 [.slice (some ⟨w.heap.size + 1,0,none⟩) 1 1],by simp,by unfold maxLen;omega,rfl,rfl⟩⟩
  ·have:=HSUM.out
   simp only [tots];omega
 case round =>
  obtain ⟨n,vs,td,hk,hn0,rfl,hown,HS,HI,hB,hbel⟩:=hrel
  have HK:=Lib.hid hk
  have hnm : n ≤ most + 1:=by omega
  clear hk
  have hbel2 : Below w.heap.size w wr:=hbw.trans (hbel.mono (by omega))
  rcases HS.out.cases with ⟨rfl,rfl⟩ | ⟨vs',L,td',l,rfl,rfl,hs',hl,hne⟩
  ·have hf:=own_nil hown
   obtain ⟨A0,C0,rfl⟩:=hf
   have hzn : z = n:=by
    have h1:=HI.out
    simp only [tots] at h1
    rw [HZ.out]
    unfold cnt
    split <;> omega
   subst hzn
   clear HS HI HZ
   go_wp2_with fail
   go_ret
   exact ⟨rfl,by (repeat' first|(with_reducible first|exact blR _ _|assumption|refine blD ?_|refine blN ?_ _)|((with_reducible first|refine blA ?_ ?_ _|refine blS ?_ ?_ _|refine blT (by assumption) ?_ ?_);focus (go_size;done)))⟩
  ·rw [List.length_append,List.length_singleton] at hown
   obtain ⟨g,cap,rfl,hg,hcap,hcm,hcell,hown2⟩:=own_pop hown
   unfold maxLen at hcm
   have HTL:=Lib.hid (Nat.le_trans (tots_len HS.out) (Nat.le_refl _))
   rw [tots_snoc] at HI HTL
   obtain ⟨m,hm⟩ : ∃ m,m = td'.length:=⟨_,rfl⟩
   rw [← hm] at hown hown2 hcap hcell
   rw [← hm]
   have HM:=Lib.hid hm
   have HSP:=Lib.hid hs'
   have HL:=Lib.hid hl
   have HNEL:=Lib.hid hne
   obtain ⟨A1,C1,rfl,hll⟩:=hl.is
   have lg:=vcell_lt hcell
   clear hm hs' hl hne HS
   by_cases hle : n ≤ most
   ·have hS:=HI.out.1 hle
    have HI2:=Lib.hid hS
    have hx1 : ((m + 1 : Nat) : Int) - 1 = (m : Int):=by omega
    have m0 : (0 : Int) ≤ (m : Int):=by omega
    have m1 : (m : Int) < ((m + 1 : Nat) : Int):=by omega
    have m2 : (0 : Int) < ((m + 1 : Nat) : Int):=by omega
    have m3 : (m : Int) ≤ (cap : Int):=by omega
    clear hS HI hown
    go_wp2_with fail
    obtain ⟨wo,hwo⟩ : ∃ wo : World,wo = wr:=⟨_,rfl⟩
    obtain ⟨go,hgo⟩ : ∃ go : Nat,go = gk:=⟨_,rfl⟩
    rw [← hgo] at HK
    have HGO:=Lib.hid hgo
    clear hgo
    go_loopg [5,6,8] l.length (fun k s5 s6 s8 wr => ∃ (t : Nat) (vs2 : List Value) (td2 : List (List VD)),k + t = l.length ∧ s8 = .int .i64 t ∧ s5 = .int .i64 (n + t) ∧ n + t ≤ most + 1 ∧ wr.ownsRow w0.heap.size 24 1 s6 td2.length vs2 ∧ Hid (Stk w0 vs2 td2) ∧ Hid ((n + t ≤ most → n + t + (tots td2 + sizes (l.drop t)) = S) ∧ (most < n + t → most < S)) ∧ w0.heap.size ≤ wr.heap.size ∧ Below w0.heap.size w0 wr)
    case atStart =>
     refine ⟨0,vs',td',by omega,rfl,by simp,by omega, ?_,HSP,Lib.hid ⟨fun _ => ?_,fun _ => by omega⟩,hB,hbel⟩
     ·rw [← HM.out];exact hown2
     ·have:=HI2.out
      rw [List.drop_zero];omega
    case round =>
     obtain ⟨t,vs2,td2,hk2,rfl,rfl,hnt,hown3,HS2,HJ,hB2,hbel3⟩:=hrel
     have HK2:=Lib.hid hk2
     have htl : t ≤ l.length:=by omega
     have hbel4 : Below w.heap.size w wr:=hbw.trans (hbel3.mono (by omega))
     clear hk2 hB hbel hbel2 hown2 hcell lg
     have HLL:=Lib.hid hll
     have hll2 : (l.length : Int) ≤ 1048576:=by omega
     clear hll
     by_cases hlt : t < l.length
     ·by_cases hm2 : n + t ≤ most
      ·obtain ⟨b,o,B1,D1,B2,D2,e,hat,hx⟩:=(HL.out.kept hbel3).at hlt
       subst e
       obtain ⟨a0,a1,a2,a3,a4,a5,a6,a7,a8,a9⟩:=hat.val
       have lb:=vcell_lt a0
       have hdr:=sizes_drop hlt
       have hSt:=HJ.out.1 hm2
       rw [hdr] at hSt
       obtain ⟨x,hxx⟩ : ∃ x,x = vg l t:=⟨_,rfl⟩
       rw [← hxx] at hx a8 hSt
       have hxs:=VD.size_eq x
       have HTL2:=Lib.hid (tots_len HS2.out)
       have hxl : (x.list.length : Int) ≤ 1048576:=by
        obtain ⟨_,_,_,q⟩:=hx.list.2.1.is
        omega
       have HXL : Hid (Vls (RV w0) w0 (.slice B1 x.list.length D1) x.list):=by
        obtain ⟨b',o',B1',D1',B2',D2',e',hat',hx'⟩:=HL.out.at hlt
        rw [← hxx] at hx' hat'
        have q8:=hat'.val.2.2.2.2.2.2.2.2.1
        have q8':=(hbel3.cell (p:=⟨b',o' + t * 10 + 8,none⟩) (vcell_lt q8)).trans q8
        injection e' with e'
        injection e' with e1 e2
        subst e1 e2
        rw [a8] at q8'
        injection q8' with q8'
        injection q8' with q1 q2 q3
        subst q1 q3
        exact Lib.hid hx'.list.2.1
       obtain ⟨xl,hxl0⟩ : ∃ xl,xl = x.list:=⟨_,rfl⟩
       rw [← hxl0] at a8 hxs hxl HXL
       obtain ⟨nl,hnl⟩ : ∃ nl,nl = xl.length:=⟨_,rfl⟩
       rw [← hnl] at a8 hxl HXL
       have HNL:=Lib.hid hnl
       have HST:=Lib.hid hSt
       have HXS:=Lib.hid hxs
       clear a0 a1 a2 a3 a4 a5 a6 a7 a9 hat hx hxx hdr hSt hxs hxl0 hnl
       by_cases hne0 : nl = 0
       ·subst hne0
        have hxe : xl = []:=List.length_eq_zero_iff.1 HNL.out.symm
        go_wp2_with fail
        go_roundg (gk - 1)
        case measure => have:=HK2.out;omega
        case rel =>
         refine ⟨t + 1,vs2,td2,by have:=HK2.out;omega,by go_num,by (congr 1;omega),by omega,hown3,HS2,Lib.hid ⟨fun _ => ?_,fun _ => ?_⟩,hB2,hbel3⟩
         ·have h1:=HST.out;have h2:=HXS.out;rw [hxe] at h2;simp only [sizes] at h2;omega
         ·have h1:=HST.out;have h2:=HXS.out;omega
       ·have hne1 : (0 : Int) < (nl : Int):=by omega
        have hd2 : td2.length ≤ 2000000:=by have:=HST.out;have:=HTL2.out;omega
        have HD2:=Lib.hid hd2
        have HNE0:=Lib.hid hne0
        clear hne0 hd2
        go_wp2_with (at_builtin;refine wpList_pushV rfl (.tmp 51) (.tmp 57) rfl w0.heap.size u6 td2.length vs2 rfl (hown3.alloc _) wr.heap.size B1 nl D1 rfl ?hc ?hl ?hb ?_;rotate_left 3;intro v1 w1 hown5 hg1)
        case hc => simp [go_sem]
        case hl => exact HD2.out
        case hb => rw [World.size_alloc];omega
        have hbp:=below_pushV (hbel3.alloc hB2 _) (hown3.alloc _) hg1 (by rw [World.size_alloc];omega)
        go_wp2_with fail
        go_roundg (gk - 1)
        case measure => have:=HK2.out;omega
        case rel =>
         refine ⟨t + 1,_,td2 ++ [xl],by have:=HK2.out;omega,by go_num,by (congr 1;omega),by omega,by rw [List.length_append];exact hown5,Lib.hid (HS2.out.snoc HXL.out (fun e => HNE0.out (by rw [HNL.out,e];rfl))),Lib.hid ⟨fun _ => ?_,fun _ => ?_⟩,hbp.size,hbp⟩
         ·have h1:=HST.out;have h2:=HXS.out;rw [tots_snoc];omega
         ·have h1:=HST.out;have h2:=HXS.out;omega
      ·have ht1 : 1 ≤ t:=by
        rcases Nat.eq_zero_or_pos t with e | e
        ·subst e;exfalso;simp at hm2;omega
        ·exact e
       have HE:=Lib.hid (HJ.out.2 (by omega))
       clear HJ
       go_wp2_with fail
       go_roundg (most + 1 - (n + t)).toNat
       case measure => have:=HK.out;have:=HGO.out;omega
       case rel => exact ⟨n + t,vs2,td2,by omega,by omega,rfl,hown3,HS2,Lib.hid ⟨fun q => absurd q (by omega),fun _ => HE.out⟩,hB2,hbel3⟩
     ·obtain rfl : t = l.length:=by omega
      have ht1 : 1 ≤ l.length:=List.length_pos_iff.2 HNEL.out
      have hj:=HJ.out
      rw [List.drop_length] at hj
      simp only [sizes] at hj
      have HJ2:=Lib.hid hj
      clear hj HJ hlt
      go_wp2_with fail
      go_roundg (most + 1 - (n + l.length)).toNat
      case measure => have:=HK.out;have:=HGO.out;omega
      case rel => exact ⟨n + l.length,vs2,td2,by omega,by omega,rfl,hown3,HS2,Lib.hid ⟨fun q => by have:=HJ2.out.1 q;omega,HJ2.out.2⟩,hB2,hbel3⟩
   ·have hzn : z = n:=by
     have h1:=HI.out
     rw [HZ.out]
     unfold cnt
     split <;> omega
    subst hzn
    have m2 : (0 : Int) < ((m + 1 : Nat) : Int):=by omega
    clear HI HZ
    go_wp2_with fail
    go_ret
    exact ⟨rfl,by (repeat' first|(with_reducible first|exact blR _ _|assumption|refine blD ?_|refine blN ?_ _)|((with_reducible first|refine blA ?_ ?_ _|refine blS ?_ ?_ _|refine blT (by assumption) ?_ ?_);focus (go_size;done)))⟩
end Go.Proofs.YtkjecoanlppeaaaGreatDoor



namespace Go.Proofs.YtkjecoanlppeaaaGreatDoor
open Go.RowKit

theorem pow_step (t : Nat) : ((2 ^ (64 * (t + 1)) : Nat) : Int) = ((2 ^ (64 * t) : Nat) : Int) * 18446744073709551616:=by
 rw [show 64 * (t + 1) = 64 * t + 64 by omega,Nat.pow_add,Int.natCast_mul];rfl
theorem plus_word {V V' n m t : Nat} {c s k x y : Int} (i1 : (V : Int) + c * ((2 ^ (64 * t) : Nat) : Int) = n + ((m % 2 ^ (64 * t) : Nat) : Int)) (hx : x = wd V t) (hy : y = wd m t)
  (i2 : (V' : Int) = V + (s - wd V t) * ((2 ^ (64 * t) : Nat) : Int)) (i3 : s + 18446744073709551616 * k = x + y + c) :
  (V' : Int) + k * ((2 ^ (64 * (t + 1)) : Nat) : Int) = n + ((m % 2 ^ (64 * (t + 1)) : Nat) : Int):=by
 rw [pow_step,wd_mod_succ,i2,← hy,← hx]
 generalize ((2 ^ (64 * t) : Nat) : Int) = P at *
 generalize ((m % 2 ^ (64 * t) : Nat) : Int) = M at *
 grind
theorem minus_word {V V' n m t : Nat} {c s k x y : Int} (i1 : (V : Int) - c * ((2 ^ (64 * t) : Nat) : Int) = n - ((m % 2 ^ (64 * t) : Nat) : Int)) (hx : x = wd V t) (hy : y = wd m t)
  (i2 : (V' : Int) = V + (s - wd V t) * ((2 ^ (64 * t) : Nat) : Int)) (i3 : s - 18446744073709551616 * k = x - y - c) :
  (V' : Int) - k * ((2 ^ (64 * (t + 1)) : Nat) : Int) = n - ((m % 2 ^ (64 * (t + 1)) : Nat) : Int):=by
 rw [pow_step,wd_mod_succ,i2,← hy,← hx]
 generalize ((2 ^ (64 * t) : Nat) : Int) = P at *
 generalize ((m % 2 ^ (64 * t) : Nat) : Int) = M at *
 grind
theorem ten_word {V V' n t : Nat} {c s k h x : Int} (i1 : (V : Int) + c * ((2 ^ (64 * t) : Nat) : Int) = n + 9 * ((n % 2 ^ (64 * t) : Nat) : Int)) (hx : x = wd V t) (hn : wd V t = wd n t)
  (i2 : (V' : Int) = V + (s - wd V t) * ((2 ^ (64 * t) : Nat) : Int)) (i3 : s + 18446744073709551616 * (h + k) = x * 10 + c) :
  (V' : Int) + (h + k) * ((2 ^ (64 * (t + 1)) : Nat) : Int) = n + 9 * ((n % 2 ^ (64 * (t + 1)) : Nat) : Int):=by
 rw [pow_step,wd_mod_succ,i2,← hn,← hx]
 generalize ((2 ^ (64 * t) : Nat) : Int) = P at *
 generalize ((n % 2 ^ (64 * t) : Nat) : Int) = M at *
 grind
theorem p256 : ((2 ^ (64 * 4) : Nat) : Int) = 115792089237316195423570985008687907853269984665640564039457584007913129639936:=by rfl
theorem plus_end {V n m : Nat} {c : Int} (hV : V < 2 ^ 256) (hs : n + m < 2 ^ 256) (h0 : 0 ≤ c) (i1 : (V : Int) + c * ((2 ^ (64 * 4) : Nat) : Int) = n + ((m % 2 ^ (64 * 4) : Nat) : Int)) : V = n + m:=by
 rw [Nat.mod_eq_of_lt (show m < 2 ^ (64 * 4) by omega),p256] at i1
 omega
theorem minus_end {V n m : Nat} {c : Int} (hV : V < 2 ^ 256) (hn : n < 2 ^ 256) (hs : m ≤ n) (h0 : 0 ≤ c) (i1 : (V : Int) - c * ((2 ^ (64 * 4) : Nat) : Int) = n - ((m % 2 ^ (64 * 4) : Nat) : Int)) : V = n - m:=by
 rw [Nat.mod_eq_of_lt (show m < 2 ^ (64 * 4) by omega),p256] at i1
 omega
theorem ten_end {V n : Nat} {c : Int} (hV : V < 2 ^ 256) (hs : n * 10 < 2 ^ 256) (h0 : 0 ≤ c) (i1 : (V : Int) + c * ((2 ^ (64 * 4) : Nat) : Int) = n + 9 * ((n % 2 ^ (64 * 4) : Nat) : Int)) : V = n * 10:=by
 rw [Nat.mod_eq_of_lt (show n < 2 ^ (64 * 4) by omega),p256] at i1
 omega
/-- the order, from the top word on -/
theorem top_word (n k : Nat) : n / 2 ^ (64 * k) = n / 2 ^ (64 * (k + 1)) * 18446744073709551616 + (wd n k).toNat:=by
 unfold wd
 rw [show 64 * (k + 1) = 64 * k + 64 by omega,Nat.pow_add,← Nat.div_div_eq_div_mul,Int.toNat_natCast]
 omega
theorem top_lt {n m k : Nat} (h : n / 2 ^ (64 * (k + 1)) = m / 2 ^ (64 * (k + 1))) (hl : wd n k < wd m k) : n < m:=by
 have e1:=top_word n k
 have e2:=top_word m k
 have a0:=wd_nn n k
 have : n / 2 ^ (64 * k) < m / 2 ^ (64 * k):=by rw [e1,e2,h];omega
 exact Nat.lt_of_not_le fun hle => absurd (Nat.div_le_div_right (c:=2 ^ (64 * k)) hle) (by omega)
theorem top_eq {n m k : Nat} (h : n / 2 ^ (64 * (k + 1)) = m / 2 ^ (64 * (k + 1))) (hl : wd n k = wd m k) : n / 2 ^ (64 * k) = m / 2 ^ (64 * k):=by
 rw [top_word n k,top_word m k,h,hl]
theorem top_none {n m : Nat} (hn : n < 2 ^ 256) (hm : m < 2 ^ 256) : n / 2 ^ (64 * 4) = m / 2 ^ (64 * 4):=by
 rw [Nat.div_eq_of_lt (show n < 2 ^ (64 * 4) from hn),Nat.div_eq_of_lt (show m < 2 ^ (64 * 4) from hm)]
end Go.Proofs.YtkjecoanlppeaaaGreatDoor



namespace Go.Proofs.YtkjecoanlppeaaaGreatDoor
open Go.RowKit

/-- where the search stands behind the first i places, k of them taken already -/
def SelB (rk : Nat → List Nat) (n k i : Nat) (z : Int) : Prop:=(z = -1 ∧ ∀ j,j < i → j ∈ (srt rk n).take k) ∨ ∃ b : Nat,z = (b : Int) ∧ b < i ∧ b ∉ (srt rk n).take k ∧ ∀ j,j < i → j ∉ (srt rk n).take k → j = b ∨ cfR rk b j < 0
variable {rk : Nat → List Nat} {n k i : Nat} {z : Int}
theorem SelB.start : SelB rk n k 0 (-1):=.inl ⟨rfl,fun j h => absurd h (Nat.not_lt_zero _)⟩
theorem SelB.over (h : SelB rk n k i z) (ht : i ∈ (srt rk n).take k) : SelB rk n k (i + 1) z:=by
 rcases h with ⟨rfl,h⟩ | ⟨b,rfl,h1,h2,h3⟩
 ·refine .inl ⟨rfl,fun j hj => ?_⟩
  by_cases e : j = i
  ·subst e;exact ht
  ·exact h j (by omega)
 ·refine .inr ⟨b,rfl,by omega,h2,fun j hj hn => ?_⟩
  by_cases e : j = i
  ·subst e;exact absurd ht hn
  ·exact h3 j (by omega) hn
theorem SelB.first (h : SelB rk n k i (-1)) (ht : i ∉ (srt rk n).take k) : SelB rk n k (i + 1) (i : Int):=by
 rcases h with ⟨_,h⟩ | ⟨b,e,_⟩
 ·refine .inr ⟨i,rfl,by omega,ht,fun j hj hn => ?_⟩
  by_cases e : j = i
  ·exact .inl e
  ·exact absurd (h j (by omega)) hn
 ·omega
theorem SelB.at {b : Nat} (h : SelB rk n k i (b : Int)) : b < i:=by
 rcases h with ⟨e,_⟩ | ⟨b',e,h1,_,_⟩
 ·omega
 ·omega
theorem SelB.cases (h : SelB rk n k i z) : z = -1 ∨ ∃ b : Nat,z = (b : Int) ∧ b < i:=by
 rcases h with ⟨e,_⟩ | ⟨b',e,h1,_,_⟩
 ·exact .inl e
 ·exact .inr ⟨b',e,h1⟩
end Go.Proofs.YtkjecoanlppeaaaGreatDoor

