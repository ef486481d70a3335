/- The contracts of the functions that the laws reach, part 1: what each returns and what becomes of memory. -/
import Derived.Test.YtbnadlpkbbdgjaaGreatDoorRows
import Derived.WalkKit
import Derived.WalkSpells
import Derived.WalkLawsBesides
import Derived.Handy
import Derived.Lib.Hide
import Derived.BigQuiet
import Derived.Deep.QuietTactic
import Derived.Deep.LoopGhost
import Derived.Deep.RegionHeld3
import Init.Omega
set_option linter.unusedSimpArgs false
set_option linter.unusedVariables false


namespace Go.Proofs.YtbnadlpkbbdgjaaGreatDoor
open Go.RowKit

theorem bcell {W w1 : World} (hb : Below W.heap.size W w1) : (∀ b o,b < W.heap.size → w1.cell? ⟨b,o,none⟩ = W.cell? ⟨b,o,none⟩) ∧ (∀ b o,b < W.heap.size → w1.frozen? ⟨b,o,none⟩ = W.frozen? ⟨b,o,none⟩) :=
 ⟨fun b o h => hb.cell (p:=⟨b,o,none⟩) h,fun b o h => hb.frozen (p:=⟨b,o,none⟩) h⟩
theorem ret_int {k : IntKind} {a b : Int} (h : a = b) : Ending.returned (.int k a) = .returned (.int k b):=by rw [h]
theorem ret_bool {a b : Bool} (h : a = b) : Ending.returned (.bool a) = .returned (.bool b):=by rw [h]
theorem below_drewN {B : Nat} {a w : World} (h : Below B a w) (n : Nat) : Below B a (w.drewN n):=⟨h.os,h.tape,h.output,h.size,h.block⟩

theorem quiet_add {P : Program} {f : FuncId} {args : Array Value} {w : World} {a n : Nat} {v : Value}
  (h : Calls P f args (w.drewN (a + n)) fun e w' => e = .returned v ∧ ∃ m,w' = (w.drewN (a + n)).drewN m) :
  Calls P f args (w.drewN (a + n)) fun e w' => e = .returned v ∧ ∃ m,w' = w.drewN (a + m) :=
 h.mono fun _ _ ⟨he,m,hm⟩ => ⟨he,n + m,by rw [hm,World.drewN_drewN,Nat.add_assoc]⟩

/-- a fact that no tactic looks into: the walk's own 'contradiction' unfolds what 'Hid' hides (powers!), but not this -/
def Far (p : Prop) : Prop:=True → p
theorem Far.mk {p : Prop} (h : p) : Far p:=fun _ => h
theorem Far.out {p : Prop} (h : Far p) : p:=h trivial

/-- Block g holds just the cells cs of type t, none of them frozen. -/
def Bk (w : World) (g : Nat) (t : TypeId) (cs : List Value) : Prop:=w.heap[g]? = some (.cells cs.toArray t (0,0))
section
variable {w w' : World} {g : Nat} {t : TypeId} {cs : List Value}
theorem Bk.lt (h : Bk w g t cs) : g < w.heap.size:=by
 rcases Nat.lt_or_ge g w.heap.size with hlt | hge
 ·exact hlt
 ·unfold Bk at h;rw [Array.getElem?_eq_none hge] at h;cases h
theorem Bk.cell (h : Bk w g t cs) (i : Nat) {v : Value} (hv : cs[i]? = some v) : w.cell? ⟨g,i,none⟩ = some v:=by
 rw [cell_of_row w g i cs.toArray t (0,0) h,← hv];simp
theorem Bk.frozen (h : Bk w g t cs) (i : Nat) : w.frozen? ⟨g,i,none⟩ = false:=by
 unfold Bk at h
 simp [World.frozen?,h]
theorem Bk.new (w : World) (t : TypeId) (cs : List Value) : Bk (w.alloc (.cells cs.toArray t)) w.heap.size t cs:=heap_alloc_new w _
theorem Bk.new_ {w : World} {t : TypeId} {cs : List Value} {g : Nat} (hg : g = w.heap.size) : Bk (w.alloc (.cells cs.toArray t)) g t cs:=by subst hg;exact Bk.new w t cs
theorem Bk.drew (h : Bk w g t cs) : Bk w.drew g t cs:=h
theorem Bk.drewN (h : Bk w g t cs) (n : Nat) : Bk (w.drewN n) g t cs:=h
theorem Bk.alloc (h : Bk w g t cs) (o : Obj) : Bk (w.alloc o) g t cs:=(Below.heap_alloc w o g h.lt).trans h
theorem Bk.set_ (h : Bk w g t cs) (i : Nat) (u : Value) : Bk (w.setCell ⟨g,i,none⟩ u) g t (cs.set i u):=by
 unfold Bk at h ⊢
 simp [World.setCell,Array.getElem?_modify,h]
theorem Bk.far (h : Bk w g t cs) {p : Addr} (hp : g ≠ p.block) (u : Value) : Bk (w.setCell p u) g t cs:=(Below.heap_setCell w p u g hp).trans h
theorem Bk.below {B : Nat} (h : Bk w g t cs) (hb : Below B w w') (hg : g < B) : Bk w' g t cs:=(hb.block g hg).trans h
end
theorem bkW {w : World} {t : TypeId} {cs : List Value} {g : Nat} (hg : g = w.heap.size) : Bk (w.alloc (.cells cs.toArray t)) g t cs:=Bk.new_ hg
theorem bkA {w : World} {g : Nat} {t : TypeId} {cs : List Value} (h : Bk w g t cs) (o : Obj) : Bk (w.alloc o) g t cs:=h.alloc o
theorem bkD {w : World} {g : Nat} {t : TypeId} {cs : List Value} (h : Bk w g t cs) : Bk w.drew g t cs:=h
theorem bkN {w : World} {g : Nat} {t : TypeId} {cs : List Value} (h : Bk w g t cs) (n : Nat) : Bk (w.drewN n) g t cs:=h
theorem bkF {w : World} {g : Nat} {t : TypeId} {cs : List Value} {p : Addr} (hp : g ≠ p.block) (h : Bk w g t cs) (u : Value) : Bk (w.setCell p u) g t cs:=h.far hp u
theorem bkB {w w' : World} {g : Nat} {t : TypeId} {cs : List Value} {B : Nat} (hb : Below B w w') (hg : g < B) (h : Bk w g t cs) : Bk w' g t cs:=h.below hb hg
theorem blR (B : Nat) (w : World) : Below B w w:=Below.refl B w
theorem blD {B : Nat} {w w' : World} (h : Below B w w') : Below B w w'.drew:=h.drew
theorem blN {B : Nat} {w w' : World} (h : Below B w w') (n : Nat) : Below B w (w'.drewN n):=below_drewN h n
theorem blA {B : Nat} {w w' : World} (hs : B ≤ w'.heap.size) (h : Below B w w') (o : Obj) : Below B w (w'.alloc o):=h.alloc hs o
theorem blS {B : Nat} {w w' : World} {a : Addr} (hs : B ≤ a.block) (h : Below B w w') (v : Value) : Below B w (w'.setCell a v):=h.setCell hs v
theorem blT {B m : Nat} {w w1 w2 : World} (h2 : Below m w1 w2) (hs : B ≤ m) (h : Below B w w1) : Below B w w2:=h.trans (h2.mono hs)
theorem wsA (w : World) (o : Obj) : (w.alloc o).heap.size = w.heap.size + 1:=World.size_alloc ..
theorem wsS (w : World) (a : Addr) (v : Value) : (w.setCell a v).heap.size = w.heap.size:=World.size_setCell ..
theorem wsD (w : World) : w.drew.heap.size = w.heap.size:=World.size_drew ..
theorem wsN (w : World) (n : Nat) : (w.drewN n).heap.size = w.heap.size:=rfl
theorem bel {B : Nat} {w w' : World} (h : Below B w w':=by (repeat' first|(with_reducible first|exact blR _ _|assumption|refine blD ?_|refine blN ?_ _)|((with_reducible first|refine blA ?_ ?_ _|refine blS ?_ ?_ _|refine blT (by assumption) ?_ ?_);focus (go_size;done)))) : Below B w w':=h
theorem bkk {w : World} {g : Nat} {t : TypeId} {cs : List Value} (h : Bk w g t cs:=by (repeat (first|(with_reducible assumption)|((with_reducible refine bkW ?_);(first|rfl|(simp only [wsA,wsS,wsD,wsN];done)))|(with_reducible first|refine bkA ?_ _|refine bkD ?_|refine bkN ?_ _)|((with_reducible refine bkF ?_ ?_ _);focus (simp only [];omega))|((with_reducible refine bkB (by assumption) ?_ ?_);focus (go_size;done))))) : Bk w g t cs:=h
end Go.Proofs.YtbnadlpkbbdgjaaGreatDoor



namespace Go.Proofs.YtbnadlpkbbdgjaaGreatDoor

/-- the i-th word of n -/
def wd (n : Nat) (i : Nat) : Int:=((n / 2 ^ (64 * i) % 2 ^ 64 : Nat) : Int)
theorem wd_nn (n i : Nat) : 0 ≤ wd n i:=by unfold wd;omega
theorem wd_lt (n i : Nat) : wd n i < 18446744073709551616:=by
 unfold wd
 have:=Nat.mod_lt (n / 2 ^ (64 * i)) (show 0 < 2 ^ 64 by decide)
 omega
theorem wd0 (n : Nat) : wd n 0 = ((n % 18446744073709551616 : Nat) : Int):=by unfold wd;simp
theorem wd1 (n : Nat) : wd n 1 = ((n / 18446744073709551616 % 18446744073709551616 : Nat) : Int):=by unfold wd;rfl
theorem wd2 (n : Nat) : wd n 2 = ((n / 340282366920938463463374607431768211456 % 18446744073709551616 : Nat) : Int):=by unfold wd;rfl
theorem wd3 (n : Nat) : wd n 3 = ((n / 6277101735386680763835789423207666416102355444464034512896 % 18446744073709551616 : Nat) : Int):=by unfold wd;rfl
/-- two words are a number below 2^128, and the other way round -/
theorem wd_two {n : Nat} (h : n < 2 ^ 128) : wd n 1 * 18446744073709551616 + wd n 0 = (n : Int):=by
 rw [wd0,wd1];omega
theorem wd_of (n : Nat) (x y : Int) (hx0 : 0 ≤ x) (hx : x < 18446744073709551616) (hy0 : 0 ≤ y) (hy : y < 18446744073709551616) (h : (n : Int) = x * 18446744073709551616 + y) : x = wd n 1 ∧ y = wd n 0:=by
 refine ⟨?_, ?_⟩
 ·rw [wd1];omega
 ·rw [wd0];omega
theorem wd_four {n : Nat} (h : n < 2 ^ 256) : wd n 3 * 6277101735386680763835789423207666416102355444464034512896 + wd n 2 * 340282366920938463463374607431768211456 + wd n 1 * 18446744073709551616 + wd n 0 = (n : Int):=by
 rw [wd0,wd1,wd2,wd3];omega
theorem wd_of4 (n : Nat) (a b c d : Int) (ha0 : 0 ≤ a) (ha : a < 18446744073709551616) (hb0 : 0 ≤ b) (hb : b < 18446744073709551616) (hc0 : 0 ≤ c) (hc : c < 18446744073709551616) (hd0 : 0 ≤ d) (hd : d < 18446744073709551616)
  (h : (n : Int) = d * 6277101735386680763835789423207666416102355444464034512896 + c * 340282366920938463463374607431768211456 + b * 18446744073709551616 + a) : a = wd n 0 ∧ b = wd n 1 ∧ c = wd n 2 ∧ d = wd n 3:=by
 refine ⟨?_, ?_, ?_, ?_⟩
 ·rw [wd0];omega
 ·rw [wd1];omega
 ·rw [wd2];omega
 ·rw [wd3];omega
theorem wd_zero (i : Nat) : wd 0 i = 0:=by unfold wd;simp
/-- equal words, equal numbers -/
theorem wd_inj {n m : Nat} (hn : n < 2 ^ 128) (hm : m < 2 ^ 128) (h1 : wd n 1 = wd m 1) (h0 : wd n 0 = wd m 0) : n = m:=by
 have:=wd_two hn
 have:=wd_two hm
 omega
theorem wd_eq_iff {n m : Nat} (hn : n < 2 ^ 128) (hm : m < 2 ^ 128) : ((wd n 1 == wd m 1) && (wd n 0 == wd m 0)) = decide (n = m):=by
 rw [Bool.eq_iff_iff]
 simp only [Bool.and_eq_true,beq_iff_eq,decide_eq_true_eq]
 constructor
 ·rintro ⟨h1,h0⟩;exact wd_inj hn hm h1 h0
 ·rintro rfl;exact ⟨rfl,rfl⟩
theorem wd_low4 {n : Nat} (hn : n < 2 ^ 256) : (wd n 2 = 0 ∧ wd n 3 = 0) ↔ n < 2 ^ 128:=by
 have h:=wd_four hn
 have a0:=wd_nn n 0
 have a1:=wd_lt n 0
 have b0:=wd_nn n 1
 have b1:=wd_lt n 1
 have c0:=wd_nn n 2
 have d0:=wd_nn n 3
 constructor
 ·rintro ⟨h2,h3⟩;rw [h2,h3] at h;omega
 ·intro hlt;constructor <;> omega
end Go.Proofs.YtbnadlpkbbdgjaaGreatDoor



namespace Go.Proofs.YtbnadlpkbbdgjaaGreatDoor
open Go.RowKit

/-- the fields of a value that are no slices -/
structure VS where
 kind : Int
 yes : Bool
 neg : Bool
 coef : Nat
 sc : Int
 text : List UInt8
 day : Int
inductive VD where
 | mk (s : VS) (list : List VD) (names : List (List UInt8))
def VD.s : VD → VS | .mk s _ _ => s
def VD.list : VD → List VD | .mk _ l _ => l
def VD.names : VD → List (List UInt8) | .mk _ _ n => n
def VS.zero : VS:=⟨0,false,false,0,0,[],0⟩
def VD.zero : VD:=.mk VS.zero [] []
/-- the fields' cells -/
def VS.cs (s : VS) : List Value:=[.int .i64 s.kind,.bool s.yes,.bool s.neg,.int .u64 (wd s.coef 1),.int .u64 (wd s.coef 0),.int .i64 s.sc,.string ⟨s.text.toArray⟩,.int .i64 s.day]
@[reducible] def vagg (s : VS) (L N : Value) : Value:=.agg #[.int .i64 s.kind,.bool s.yes,.bool s.neg,.int .u64 (wd s.coef 1),.int .u64 (wd s.coef 0),.int .i64 s.sc,.string ⟨s.text.toArray⟩,.int .i64 s.day,L,N]
def VS.ok (s : VS) : Prop:=s.coef < 2 ^ 128 ∧ s.text.length ≤ 1048576
def vg (l : List VD) (r : Nat) : VD:=l.getD r VD.zero
def ng (l : List (List UInt8)) (r : Nat) : List UInt8:=l.getD r []
mutual
def VD.size : VD → Nat
 | .mk _ l _ => 1 + sizes l
def sizes : List VD → Nat
 | [] => 0
 | x :: r => x.size + sizes r
end
mutual
def VD.deep : VD → Nat
 | .mk _ l _ => deeps l + 1
def deeps : List VD → Nat
 | [] => 0
 | x :: r => max x.deep (deeps r)
end
/-- a thing of the cells cs stands at a place -/
def At (w : World) (b q : Nat) (cs : List Value) : Prop:=∀ j,j < cs.length → w.cell? ⟨b,q + j,none⟩ = cs[j]?
theorem vcell_lt {w : World} {b o : Nat} {u : Value} (h : w.cell? ⟨b,o,none⟩ = some u) : b < w.heap.size:=by
 rcases Nat.lt_or_ge b w.heap.size with hlt | hge
 ·exact hlt
 ·simp [World.cell?,Array.getElem?_eq_none hge] at h
theorem At.below {w w' : World} {b q : Nat} {cs : List Value} (h : At w b q cs) (hb : Below w.heap.size w w') : At w' b q cs:=fun j hj => by
 refine (hb.cell (p:=⟨b,q + j,none⟩) ?_).trans (h j hj)
 have e:=h j hj
 rw [List.getElem?_eq_getElem hj] at e
 exact vcell_lt e
/-- a list of names -/
def Nms (w : World) (N : Value) (l : List (List UInt8)) : Prop:=∃ A C,N = .slice A l.length C ∧ (l.length ≤ 1048576 ∧ l.length ≤ C ∧ C ≤ maxLen) ∧ ∀ r,r < l.length → ∃ b o,A = some ⟨b,o,none⟩ ∧ w.cell? ⟨b,o + r,none⟩ = some (.string ⟨(ng l r).toArray⟩) ∧ (ng l r).length ≤ 1048576
/-- a list of values, each of which R reads -/
def Vls (R : Value → Value → VD → Prop) (w : World) (L : Value) (l : List VD) : Prop:=∃ A C,L = .slice A l.length C ∧ (l.length ≤ 1048576 ∧ l.length ≤ C ∧ C ≤ maxLen) ∧ ∀ r,r < l.length → ∃ b o A1 C1 A2 C2,A = some ⟨b,o,none⟩ ∧ At w b (o + r * 10) ((vg l r).s.cs ++ [.slice A1 (vg l r).list.length C1,.slice A2 (vg l r).names.length C2]) ∧ R (.slice A1 (vg l r).list.length C1) (.slice A2 (vg l r).names.length C2) (vg l r)
/-- a value at its two slices -/
def VR : Nat → World → Value → Value → VD → Prop
 | 0,_,_,_,_ => False
 | n + 1,w,L,N,d => d.s.ok ∧ Vls (VR n w) w L d.list ∧ Nms w N d.names
theorem Nms.below {w w' : World} {N : Value} {l : List (List UInt8)} (h : Nms w N l) (hb : Below w.heap.size w w') : Nms w' N l:=by
 obtain ⟨A,C,h1,h2,h3⟩:=h
 refine ⟨A,C,h1,h2,fun r hr => ?_⟩
 obtain ⟨b,o,h4,h5,h6⟩:=h3 r hr
 exact ⟨b,o,h4,(hb.cell (p:=⟨b,o + r,none⟩) (vcell_lt h5)).trans h5,h6⟩
theorem Vls.below {R R' : Value → Value → VD → Prop} {w w' : World} {L : Value} {l : List VD} (h : Vls R w L l) (hb : Below w.heap.size w w') (hR : ∀ L N d,R L N d → R' L N d) : Vls R' w' L l:=by
 obtain ⟨A,C,h1,h2,h3⟩:=h
 refine ⟨A,C,h1,h2,fun r hr => ?_⟩
 obtain ⟨b,o,A1,C1,A2,C2,h4,h5,h6⟩:=h3 r hr
 exact ⟨b,o,A1,C1,A2,C2,h4,h5.below hb,hR _ _ _ h6⟩
theorem VR.below {w w' : World} : ∀ {n : Nat} {L N : Value} {d : VD},VR n w L N d → Below w.heap.size w w' → VR n w' L N d
 | 0,_,_,_,h,_ => h
 | n + 1,_,_,_,⟨h1,h2,h3⟩,hb => ⟨h1,h2.below hb (fun _ _ _ h => h.below hb),h3.below hb⟩
theorem At.val {w : World} {b q : Nat} {s : VS} {L N : Value} (h : At w b q (s.cs ++ [L,N])) : w.cell? ⟨b,q,none⟩ = some (.int .i64 s.kind) ∧ w.cell? ⟨b,q + 1,none⟩ = some (.bool s.yes) ∧ w.cell? ⟨b,q + 2,none⟩ = some (.bool s.neg) ∧ w.cell? ⟨b,q + 3,none⟩ = some (.int .u64 (wd s.coef 1)) ∧
  w.cell? ⟨b,q + 4,none⟩ = some (.int .u64 (wd s.coef 0)) ∧ w.cell? ⟨b,q + 5,none⟩ = some (.int .i64 s.sc) ∧ w.cell? ⟨b,q + 6,none⟩ = some (.string ⟨s.text.toArray⟩) ∧ w.cell? ⟨b,q + 7,none⟩ = some (.int .i64 s.day) ∧ w.cell? ⟨b,q + 8,none⟩ = some L ∧ w.cell? ⟨b,q + 9,none⟩ = some N:=by
 have hl : (s.cs ++ [L,N]).length = 10:=rfl
 refine ⟨h 0 ?_,h 1 ?_,h 2 ?_,h 3 ?_,h 4 ?_,h 5 ?_,h 6 ?_,h 7 ?_,h 8 ?_,h 9 ?_⟩ <;> rw [hl] <;> decide
theorem Vls.at {R : Value → Value → VD → Prop} {w : World} {l : List VD} {A : Option Addr} {n C : Nat} (h : Vls R w (.slice A n C) l) {r : Nat} (hr : r < l.length) : ∃ b o A1 C1 A2 C2,A = some ⟨b,o,none⟩ ∧ At w b (o + r * 10) ((vg l r).s.cs ++ [.slice A1 (vg l r).list.length C1,.slice A2 (vg l r).names.length C2]) ∧ R (.slice A1 (vg l r).list.length C1) (.slice A2 (vg l r).names.length C2) (vg l r):=by
 obtain ⟨A',C',h1,_,h3⟩:=h
 injection h1 with e1 e2 e3
 subst e1
 exact h3 r hr
theorem Vls.is {R : Value → Value → VD → Prop} {w : World} {l : List VD} {L : Value} (h : Vls R w L l) : ∃ A C,L = .slice A l.length C ∧ l.length ≤ 1048576:=by
 obtain ⟨A',C',h1,h2,_⟩:=h
 exact ⟨A',C',h1,h2.1⟩
theorem Nms.is {w : World} {l : List (List UInt8)} {L : Value} (h : Nms w L l) : ∃ A C,L = .slice A l.length C ∧ l.length ≤ 1048576:=by
 obtain ⟨A',C',h1,h2,_⟩:=h
 exact ⟨A',C',h1,h2.1⟩
theorem Nms.at {w : World} {l : List (List UInt8)} {A : Option Addr} {n C : Nat} (h : Nms w (.slice A n C) l) {r : Nat} (hr : r < l.length) : ∃ b o,A = some ⟨b,o,none⟩ ∧ w.cell? ⟨b,o + r,none⟩ = some (.string ⟨(ng l r).toArray⟩) ∧ (ng l r).length ≤ 1048576:=by
 obtain ⟨A',C',h1,_,h3⟩:=h
 injection h1 with e1 e2 e3
 subst e1
 exact h3 r hr
theorem sizes_append : ∀ (a b : List VD),sizes (a ++ b) = sizes a + sizes b
 | [],b => by simp [sizes]
 | x :: r,b => by rw [List.cons_append,sizes,sizes,sizes_append r b];omega
theorem deeps_append : ∀ (a b : List VD),deeps (a ++ b) = max (deeps a) (deeps b)
 | [],b => by simp [deeps]
 | x :: r,b => by rw [List.cons_append,deeps,deeps,deeps_append r b];omega
theorem take_vg {l : List VD} {t : Nat} (h : t < l.length) : l.take (t + 1) = l.take t ++ [vg l t]:=by
 rw [List.take_succ_eq_append_getElem h]
 unfold vg
 rw [List.getD_eq_getElem?_getD,List.getElem?_eq_getElem h];rfl
theorem sizes_take {l : List VD} {t : Nat} (h : t < l.length) : sizes (l.take (t + 1)) = sizes (l.take t) + (vg l t).size:=by
 rw [take_vg h,sizes_append];simp [sizes]
theorem deeps_take {l : List VD} {t : Nat} (h : t < l.length) : deeps (l.take (t + 1)) = max (deeps (l.take t)) (vg l t).deep:=by
 rw [take_vg h,deeps_append];simp [deeps]
theorem sizes_le {l : List VD} (t : Nat) : sizes (l.take t) ≤ sizes l:=by
 have h:=sizes_append (l.take t) (l.drop t)
 rw [List.take_append_drop] at h
 omega
theorem VD.size_eq (d : VD) : d.size = 1 + sizes d.list:=by cases d;rfl
theorem VD.deep_eq (d : VD) : d.deep = deeps d.list + 1:=by cases d;rfl
theorem size_pos (d : VD) : 1 ≤ d.size:=by rw [VD.size_eq];omega
theorem vg_size {l : List VD} {t : Nat} (h : t < l.length) : (vg l t).size ≤ sizes l:=by
 have h1:=sizes_take h
 have h2:=sizes_le (l:=l) (t + 1)
 omega
mutual
theorem deep_size : ∀ d : VD,d.deep ≤ d.size
 | .mk _ l _ => by rw [VD.deep,VD.size];have:=deeps_sizes l;omega
theorem deeps_sizes : ∀ l : List VD,deeps l ≤ sizes l
 | [] => Nat.le_refl _
 | x :: r => by rw [deeps,sizes];have:=deep_size x;have:=deeps_sizes r;omega
end
theorem Nms.caps {w : World} {l : List (List UInt8)} {A : Option Addr} {n C : Nat} (h : Nms w (.slice A n C) l) : l.length ≤ C ∧ C ≤ 9223372036854775807:=by
 obtain ⟨A',C',h1,h2,_⟩:=h
 injection h1 with e1 e2 e3
 subst e3
 exact h2.2
theorem Vls.caps {R : Value → Value → VD → Prop} {w : World} {l : List VD} {A : Option Addr} {n C : Nat} (h : Vls R w (.slice A n C) l) : l.length ≤ C ∧ C ≤ 9223372036854775807:=by
 obtain ⟨A',C',h1,h2,_⟩:=h
 injection h1 with e1 e2 e3
 subst e3
 exact h2.2
/-- counted up to most and one more -/
def cnt (s : Nat) (most : Int) : Int:=if (s : Int) ≤ most then s else most + 1
end Go.Proofs.YtbnadlpkbbdgjaaGreatDoor



namespace Go.Proofs.YtbnadlpkbbdgjaaGreatDoor
open Go.RowKit
theorem wp_named {F : World → Prop} {w : World} (R : World → Prop) (hR : R w) (h : ∀ W,R W → F W) : F w:=h w hR
theorem calls_named {P : Program} {f : FuncId} {args : Array Value} {K : Ending → World → Prop} {w : World} (R : World → Prop) (hR : R w) (h : ∀ W,R W → Calls P f args W K) : Calls P f args w K:=h w hR
end Go.Proofs.YtbnadlpkbbdgjaaGreatDoor



namespace Go.Proofs.YtbnadlpkbbdgjaaGreatDoor
open Go.RowKit

set_option maxRecDepth 100000 in
theorem veq_dec (b : Bool) (x y s : Int) (b' : Bool) (x' y' s' : Int) (W : World) : (binOp .eql 27 (.agg #[.bool b,.int .u64 x,.int .u64 y,.int .i64 s]) (.agg #[.bool b',.int .u64 x',.int .u64 y',.int .i64 s'])).run Tryz.prog W = .ok (.bool ((b == b') && ((x == x') && ((y == y') && (s == s'))))) W:=by
 go_simp
 by_cases h0 : b = b' <;> by_cases h1 : x = x' <;> by_cases h2 : y = y' <;> by_cases h3 : s = s' <;> simp [h0,h1,h2,h3]
set_option maxRecDepth 100000 in
theorem vneq_dec (b : Bool) (x y s : Int) (b' : Bool) (x' y' s' : Int) (W : World) : (binOp .neq 27 (.agg #[.bool b,.int .u64 x,.int .u64 y,.int .i64 s]) (.agg #[.bool b',.int .u64 x',.int .u64 y',.int .i64 s'])).run Tryz.prog W = .ok (.bool (!((b == b') && ((x == x') && ((y == y') && (s == s')))))) W:=by
 go_simp
 by_cases h0 : b = b' <;> by_cases h1 : x = x' <;> by_cases h2 : y = y' <;> by_cases h3 : s = s' <;> simp [h0,h1,h2,h3]
/-- the number is the zero value -/
def zn (s : VS) : Bool:=(s.neg == false) && (((wd s.coef 1 : Int) == 0) && (((wd s.coef 0 : Int) == 0) && (s.sc == 0)))
/-- the fields that the kind does not use are zero; q: may there be items? -/
def bareQ (s : VS) (ll nl : Nat) (q : Prop) [Decidable q] : Bool:=decide ((s.kind = 1 ∨ s.yes = false) ∧ (s.kind = 2 ∨ zn s = true) ∧ (s.kind = 3 ∨ s.text = []) ∧ (s.kind = 4 ∨ s.day = 0) ∧ (q ∨ ll = 0) ∧ (s.kind = 6 ∨ nl = 0))
theorem bareQ_iff {s : VS} {ll nl : Nat} {q : Prop} [Decidable q] : bareQ s ll nl q = true ↔ ((s.kind = 1 ∨ s.yes = false) ∧ (s.kind = 2 ∨ zn s = true) ∧ (s.kind = 3 ∨ s.text = []) ∧ (s.kind = 4 ∨ s.day = 0) ∧ (q ∨ ll = 0) ∧ (s.kind = 6 ∨ nl = 0)):=by
 unfold bareQ;exact decide_eq_true_iff

end Go.Proofs.YtbnadlpkbbdgjaaGreatDoor

