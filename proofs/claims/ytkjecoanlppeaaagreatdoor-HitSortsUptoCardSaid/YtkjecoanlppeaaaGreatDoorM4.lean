/- The contracts of the functions that the laws reach, part 4: what each returns and what becomes of memory. -/
import Derived.Test.YtkjecoanlppeaaaGreatDoorSh
import Derived.Lib.SlicesS
import Derived.Test.YtkjecoanlppeaaaGreatDoorCards
import Derived.Test.YtkjecoanlppeaaaGreatDoorTie
import Derived.Deep.DeepHandedRow
import Derived.LaidMore
import Derived.Lay
import Derived.SevenTiedAt
import Derived.Test.YtkjecoanlppeaaaGreatDoorM3
set_option linter.unusedSimpArgs false
set_option linter.unusedVariables false


namespace Go.Proofs.YtkjecoanlppeaaaGreatDoor
open Go.RowKit

theorem length_sizes : ∀ l : List VD,l.length ≤ sizes l
 | [] => Nat.le_refl _
 | x :: r => by rw [sizes,List.length_cons];have:=size_pos x;have:=length_sizes r;omega
def CopyOf (R : World → Value → Value → VD → Prop) : Prop:=∀ (x : VD) (A : Option Addr) (C : Nat) (A2 : Option Addr) (C2 : Nat) (w : World),x.size ≤ 1000000 → R w (.slice A x.list.length C) (.slice A2 x.names.length C2) x → Calls Tryz.prog 41 #[vargs x A C A2 C2] w (RetC x w)
set_option maxRecDepth 100000 in
set_option maxHeartbeats 4000000 in
theorem copied_step (R : World → Value → Value → VD → Prop) (hR : ∀ w w' L N x,R w L N x → Below w.heap.size w w' → R w' L N x) (H : CopyOf R)
  (s : VS) (l : List VD) (nm : List (List UInt8)) (A : Option Addr) (C : Nat) (A2 : Option Addr) (C2 : Nat) (w : World) (hok : s.ok) (hv : Vls (R w) w (.slice A l.length C) l) (hn : Nms w (.slice A2 nm.length C2) nm) (hsz6 : sizes l ≤ 1000000) :
  Calls Tryz.prog 41 #[vagg s (.slice A l.length C) (.slice A2 nm.length C2)] w (RetC (.mk s l nm) w):=by
 have hl6 : l.length ≤ 1000000:=Nat.le_trans (length_sizes l) hsz6
 have HSZ6:=Lib.hid hsz6
 clear hsz6
 have HV:=Lib.hid hv
 have HN:=Lib.hid hn
 have HH:=Lib.hid H
 have HR:=Lib.hid hR
 have HOK:=Lib.hid hok
 have hlc : (l.length : Int) ≤ 1000000:=by omega
 have HKL:=Lib.hid (fun (W : World) (hW : Below w.heap.size w W) => clone_any nm (.slice A2 nm.length C2) W (hn.below hW))
 clear hv hn H hR hok
 unfold RetC vargs
 dsimp only [VD.s,VD.list,VD.names]
 obtain ⟨kind,yes,neg,coef,sc,text,day⟩:=s
 unfold vagg
 dsimp only
 obtain ⟨x1,hx1⟩ : ∃ y,y = wd coef 1:=⟨_,rfl⟩
 obtain ⟨x0,hx0⟩ : ∃ y,y = wd coef 0:=⟨_,rfl⟩
 obtain ⟨tx,htx⟩ : ∃ y : ByteArray,y = ⟨text.toArray⟩:=⟨_,rfl⟩
 rw [← hx1,← hx0,← htx]
 clear hx1 hx0 htx
 obtain ⟨m2,hm2⟩ : ∃ y,y = nm.length:=⟨_,rfl⟩
 unfold RetN at HKL
 rw [← hm2] at HKL ⊢
 have HM2:=Lib.hid hm2
 clear hm2
 go_enter Tryz.func41,Tryz.ntmps41
 go_wp2_with fail
 have kb : Bk ((w.alloc (.cells #[.int .i64 kind,.bool yes,.bool neg,.int .u64 x1,.int .u64 x0,.int .i64 sc,.string tx,.int .i64 day,.slice A l.length C,.slice A2 m2 C2] 34)).alloc (.cells #[.int .i64 0,.bool false,.bool false,.int .u64 0,.int .u64 0,.int .i64 0,.string ⟨#[]⟩,.int .i64 0,.slice none 0 0,.slice none 0 0] 34)) w.heap.size 34 [.int .i64 kind,.bool yes,.bool neg,.int .u64 x1,.int .u64 x0,.int .i64 sc,.string tx,.int .i64 day,.slice A l.length C,.slice A2 m2 C2]:=by (repeat (first|(with_reducible assumption)|((with_reducible refine bkW ?_);(first|rfl|(simp only [wsA,wsS,wsD,wsN];done)))|(with_reducible first|refine bkA ?_ _|refine bkD ?_|refine bkN ?_ _)|((with_reducible refine bkF ?_ ?_ _);focus (simp only [];omega))|((with_reducible refine bkB (by assumption) ?_ ?_);focus (go_size;done))))
 have kz : Bk ((w.alloc (.cells #[.int .i64 kind,.bool yes,.bool neg,.int .u64 x1,.int .u64 x0,.int .i64 sc,.string tx,.int .i64 day,.slice A l.length C,.slice A2 m2 C2] 34)).alloc (.cells #[.int .i64 0,.bool false,.bool false,.int .u64 0,.int .u64 0,.int .i64 0,.string ⟨#[]⟩,.int .i64 0,.slice none 0 0,.slice none 0 0] 34)) (w.heap.size + 1) 34 zc10:=by
  unfold zc10
  exact Bk.new_ (by simp only [World.size_alloc])
 have hb0 : Below w.heap.size w ((w.alloc (.cells #[.int .i64 kind,.bool yes,.bool neg,.int .u64 x1,.int .u64 x0,.int .i64 sc,.string tx,.int .i64 day,.slice A l.length C,.slice A2 m2 C2] 34)).alloc (.cells #[.int .i64 0,.bool false,.bool false,.int .u64 0,.int .u64 0,.int .i64 0,.string ⟨#[]⟩,.int .i64 0,.slice none 0 0,.slice none 0 0] 34)):=by (repeat' first|(with_reducible first|exact blR _ _|assumption|refine blD ?_|refine blN ?_ _)|((with_reducible first|refine blA ?_ ?_ _|refine blS ?_ ?_ _|refine blT (by assumption) ?_ ?_);focus (go_size;done)))
 have hs0:=kz.lt
 generalize (w.alloc (.cells #[.int .i64 kind,.bool yes,.bool neg,.int .u64 x1,.int .u64 x0,.int .i64 sc,.string tx,.int .i64 day,.slice A l.length C,.slice A2 m2 C2] 34)).alloc (.cells #[.int .i64 0,.bool false,.bool false,.int .u64 0,.int .u64 0,.int .i64 0,.string ⟨#[]⟩,.int .i64 0,.slice none 0 0,.slice none 0 0] 34) = wx at *
 go_loopg [3,9] l.length (fun k s3 s9 wr => ∃ t : Nat,k + t = l.length ∧ s9 = .int .i64 t ∧ Hid (OwnVs (w.heap.size + 2) 0 wr s3 (l.take t)) ∧ Hid (Bk wr w.heap.size 34 [.int .i64 kind,.bool yes,.bool neg,.int .u64 x1,.int .u64 x0,.int .i64 sc,.string tx,.int .i64 day,.slice A l.length C,.slice A2 m2 C2]) ∧ Hid (Bk wr (w.heap.size + 1) 34 zc10) ∧ w.heap.size + 2 ≤ wr.heap.size ∧ Below w.heap.size w wr)
 case atStart => exact ⟨0,by omega,rfl,Lib.hid (OwnVs.nil _ _ _),Lib.hid kb,Lib.hid kz,by omega,hb0⟩
 case round =>
  obtain ⟨t,hk,rfl,HW,KB,KZ,hsz,hbel⟩:=hrel
  have HK:=Lib.hid hk
  have htl : t ≤ l.length:=by omega
  clear hk kb kz hb0 hs0
  by_cases hlt : t < l.length
  ·obtain ⟨b,o,A1,C1,A2',C2',rfl,hat,hx⟩:=(HV.out.below hbel (fun _ _ _ h => HR.out _ _ _ _ _ h hbel)).at hlt
   obtain ⟨a0,a1,a2,a3,a4,a5,a6,a7,a8,a9⟩:=hat.val
   have lb:=vcell_lt a0
   have htc : (t : Int) < (l.length : Int):=by omega
   have HTK:=Lib.hid (take_vg hlt)
   have hx6 : (vg l t).size ≤ 1000000:=Nat.le_trans (vg_size hlt) HSZ6.out
   obtain ⟨x,hxx⟩ : ∃ x,x = vg l t:=⟨_,rfl⟩
   rw [← hxx] at hx a0 a1 a2 a3 a4 a5 a6 a7 a8 a9 HTK hx6
   have HC:=Lib.hid (fun (W : World) (hW : Below wr.heap.size wr W) => HH.out x A1 C1 A2' C2' W hx6 (HR.out _ _ _ _ _ hx hW))
   unfold RetC at HC
   obtain ⟨n1',hn1⟩ : ∃ n1',n1' = x.list.length:=⟨_,rfl⟩
   obtain ⟨n2',hn2⟩ : ∃ n2',n2' = x.names.length:=⟨_,rfl⟩
   have HX1:=Lib.hid hn1
   have HX2:=Lib.hid hn2
   rw [← hn1] at a8
   rw [← hn2] at a9
   have hargs : vargs x A1 C1 A2' C2' = .agg #[.int .i64 x.s.kind,.bool x.s.yes,.bool x.s.neg,.int .u64 (wd x.s.coef 1),.int .u64 (wd x.s.coef 0),.int .i64 x.s.sc,.string ⟨x.s.text.toArray⟩,.int .i64 x.s.day,.slice A1 n1' C1,.slice A2' n2' C2']:=by rw [hn1,hn2]
   rw [hargs] at HC
   have HRT:=Lib.hid (show (l.take t).length ≤ 1000000 by rw [List.length_take];omega)
   clear hat hx hxx hn1 hn2 hargs hx6
   go_wp2_with (first | (go_at_call 41;(with_reducible refine (HC.out _ (by (repeat' first|(with_reducible first|exact blR _ _|assumption|refine blD ?_|refine blN ?_ _)|((with_reducible first|refine blA ?_ ?_ _|refine blS ?_ ?_ _|refine blT (by assumption) ?_ ?_);focus (go_size;done))))).mono ?_);rintro _ w2 ⟨VA,VC,VA2,VC2,rfl,hvb,hb2⟩;have HVB:=Lib.hid hvb;clear hvb;have hb2s:=hb2.size;(try simp only [World.size_drew,World.size_alloc,World.size_setCell] at hb2s);(try have : w.heap.size < w2.heap.size:=by omega);(try have : w.heap.size + 1 < w2.heap.size:=by omega);(try have : w.heap.size + 1 + 1 < w2.heap.size:=by omega);(try have : w.heap.size + 1 + 1 + 1 < w2.heap.size:=by omega)) | (at_builtin;refine wpList_pushX rfl _ _ rfl (w.heap.size + 2) 0 (Nat.zero_le _) (by go_size) u3 (l.take t) rfl (HW.out.below (Nat.zero_le _) (by (repeat' first|(with_reducible first|exact blR _ _|assumption|refine blD ?_|refine blN ?_ _)|((with_reducible first|refine blA ?_ ?_ _|refine blS ?_ ?_ _|refine blT (by assumption) ?_ ?_);focus (go_size;done))))) w2.heap.size x VA VC VA2 VC2 rfl (At.new w2 (vcs x VA VC VA2 VC2) _ rfl) (VN.far (HVB.out.move (fun b hb => Below.heap_alloc w2 _ b (by omega))) (by simp only [World.size_alloc];omega) (by simp only [World.size_alloc];omega) (fun g hg => by have:=HW.out.lt g hg;simp only [World.size_alloc];omega)) HRT.out ?_;intro g cap w3 ho3 hb3 hlt3;have hs3:=hb3.size;(simp only [World.size_alloc] at hs3);have hbw3 : Below w.heap.size w w3:=Below.trans (by (repeat' first|(with_reducible first|exact blR _ _|assumption|refine blD ?_|refine blN ?_ _)|((with_reducible first|refine blA ?_ ?_ _|refine blS ?_ ?_ _|refine blT (by assumption) ?_ ?_);focus (go_size;done)))) (hb3.mono (by omega));have HO3:=Lib.hid ho3;have HB3:=Lib.hid hb3;clear ho3))
   go_roundg (gk - 1)
   case measure => have:=HK.out;omega
   case rel =>
    have hb3:=HB3.out
    refine ⟨t + 1,by have:=HK.out;omega,by go_num,Lib.hid ?_,Lib.hid ?_,Lib.hid ?_,by omega,hbw3⟩
    ·have e:=HO3.out
     have hlen : (l.take t).length = t:=by rw [List.length_take];omega
     rw [hlen] at e
     rw [HTK.out];exact e
    ·have k:=KB.out
     (repeat (first|(with_reducible assumption)|((with_reducible refine bkW ?_);(first|rfl|(simp only [wsA,wsS,wsD,wsN];done)))|(with_reducible first|refine bkA ?_ _|refine bkD ?_|refine bkN ?_ _)|((with_reducible refine bkF ?_ ?_ _);focus (simp only [];omega))|((with_reducible refine bkB (by assumption) ?_ ?_);focus (go_size;done))))
    ·have k:=KZ.out
     (repeat (first|(with_reducible assumption)|((with_reducible refine bkW ?_);(first|rfl|(simp only [wsA,wsS,wsD,wsN];done)))|(with_reducible first|refine bkA ?_ _|refine bkD ?_|refine bkN ?_ _)|((with_reducible refine bkF ?_ ?_ _);focus (simp only [];omega))|((with_reducible refine bkB (by assumption) ?_ ?_);focus (go_size;done))))
  ·obtain rfl : t = l.length:=by omega
   clear hlt
   obtain ⟨A3,C3,h3,_,_⟩:=HW.out.is
   rw [List.take_length] at HW h3
   subst h3
   have y0:=KB.out.cell 0 rfl
   have y1:=KB.out.cell 1 rfl
   have y2:=KB.out.cell 2 rfl
   have y3:=KB.out.cell 3 rfl
   have y4:=KB.out.cell 4 rfl
   have y5:=KB.out.cell 5 rfl
   have y6:=KB.out.cell 6 rfl
   have y7:=KB.out.cell 7 rfl
   have y8:=KB.out.cell 8 rfl
   have y9:=KB.out.cell 9 rfl
   have yf8:=KB.out.frozen 8
   have yf9:=KB.out.frozen 9
   (try have : w.heap.size < wr.heap.size:=by omega);(try have : w.heap.size + 1 < wr.heap.size:=by omega);(try have : w.heap.size + 1 + 1 < wr.heap.size:=by omega);(try have : w.heap.size + 1 + 1 + 1 < wr.heap.size:=by omega)
   go_upto_region 8 with (go_at_call 71;(with_reducible refine (HKL.out _ (by (repeat' first|(with_reducible first|exact blR _ _|assumption|refine blD ?_|refine blN ?_ _)|((with_reducible first|refine blA ?_ ?_ _|refine blS ?_ ?_ _|refine blT (by assumption) ?_ ?_);focus (go_size;done))))).mono ?_);rintro _ w2 ⟨NA,NC,rfl,hnb,hb2⟩;have HNB:=Lib.hid hnb;have HB2:=Lib.hid hb2;clear hnb;have hb2s:=hb2.size;(try have : w.heap.size < w2.heap.size:=by omega);(try have : w.heap.size + 1 < w2.heap.size:=by omega);(try have : w.heap.size + 1 + 1 < w2.heap.size:=by omega);(try have : w.heap.size + 1 + 1 + 1 < w2.heap.size:=by omega);obtain ⟨hb2c,hb2f⟩:=bcell hb2)
   have kx : Bk ((w2.setCell ⟨w.heap.size,8,none⟩ (.slice A3 l.length C3)).setCell ⟨w.heap.size,9,none⟩ (.slice NA m2 NC)) w.heap.size 34 [.int .i64 kind,.bool yes,.bool neg,.int .u64 x1,.int .u64 x0,.int .i64 sc,.string tx,.int .i64 day,.slice A3 l.length C3,.slice NA m2 NC]:=((KB.out.below hb2 (by omega)).set_ 8 _).set_ 9 _
   have kz : Bk ((w2.setCell ⟨w.heap.size,8,none⟩ (.slice A3 l.length C3)).setCell ⟨w.heap.size,9,none⟩ (.slice NA m2 NC)) (w.heap.size + 1) 34 zc10:=by
    have k:=KZ.out
    (repeat (first|(with_reducible assumption)|((with_reducible refine bkW ?_);(first|rfl|(simp only [wsA,wsS,wsD,wsN];done)))|(with_reducible first|refine bkA ?_ _|refine bkD ?_|refine bkN ?_ _)|((with_reducible refine bkF ?_ ?_ _);focus (simp only [];omega))|((with_reducible refine bkB (by assumption) ?_ ?_);focus (go_size;done))))
   have mb : Below w.heap.size w ((w2.setCell ⟨w.heap.size,8,none⟩ (.slice A3 l.length C3)).setCell ⟨w.heap.size,9,none⟩ (.slice NA m2 NC)):=by (repeat' first|(with_reducible first|exact blR _ _|assumption|refine blD ?_|refine blN ?_ _)|((with_reducible first|refine blA ?_ ?_ _|refine blS ?_ ?_ _|refine blT (by assumption) ?_ ?_);focus (go_size;done)))
   have hag : ∀ b,w.heap.size + 1 < b → ((w2.setCell ⟨w.heap.size,8,none⟩ (.slice A3 l.length C3)).setCell ⟨w.heap.size,9,none⟩ (.slice NA m2 NC)).heap[b]? = w2.heap[b]?:=fun b hb => by
    rw [Below.heap_setCell _ _ _ _ (by show b ≠ w.heap.size;omega),Below.heap_setCell _ _ _ _ (by show b ≠ w.heap.size;omega)]
   have hsz2 : ((w2.setCell ⟨w.heap.size,8,none⟩ (.slice A3 l.length C3)).setCell ⟨w.heap.size,9,none⟩ (.slice NA m2 NC)).heap.size = w2.heap.size:=by simp only [World.size_setCell]
   generalize (w2.setCell ⟨w.heap.size,8,none⟩ (.slice A3 l.length C3)).setCell ⟨w.heap.size,9,none⟩ (.slice NA m2 NC) = W at *
   have KX:=Lib.hid kx
   have KZ2:=Lib.hid kz
   have HAG:=Lib.hid hag
   have HSZ2:=Lib.hid hsz2
   clear kx kz hag hsz2 hb2c hb2f y0 y1 y2 y3 y4 y5 y6 y7 y8 y9 yf8 yf9 hb2
   have y0:=KX.out.cell 0 rfl
   have y1:=KX.out.cell 1 rfl
   have y2:=KX.out.cell 2 rfl
   have y3:=KX.out.cell 3 rfl
   have y4:=KX.out.cell 4 rfl
   have y5:=KX.out.cell 5 rfl
   have y6:=KX.out.cell 6 rfl
   have y7:=KX.out.cell 7 rfl
   have y8:=KX.out.cell 8 rfl
   have y9:=KX.out.cell 9 rfl
   have z0:=KZ2.out.cell 0 rfl
   have z1:=KZ2.out.cell 1 rfl
   have z2:=KZ2.out.cell 2 rfl
   have z3:=KZ2.out.cell 3 rfl
   have z4:=KZ2.out.cell 4 rfl
   have z5:=KZ2.out.cell 5 rfl
   have z6:=KZ2.out.cell 6 rfl
   have z7:=KZ2.out.cell 7 rfl
   have z8:=KZ2.out.cell 8 rfl
   have z9:=KZ2.out.cell 9 rfl
   have zf0:=KZ2.out.frozen 0
   have zf1:=KZ2.out.frozen 1
   have zf2:=KZ2.out.frozen 2
   have zf3:=KZ2.out.frozen 3
   have zf4:=KZ2.out.frozen 4
   have zf5:=KZ2.out.frozen 5
   have zf6:=KZ2.out.frozen 6
   have zf7:=KZ2.out.frozen 7
   have zf8:=KZ2.out.frozen 8
   have zf9:=KZ2.out.frozen 9
   go_wp2_with fail
   refine bodyPost_ret (by simp [results,Tryz.results41,go_sem, *];try rfl) rfl ?_
   refine ⟨A3,C3,NA,NC,rfl, ?_,by (repeat' first|(with_reducible first|exact blR _ _|assumption|refine blD ?_|refine blN ?_ _)|((with_reducible first|refine blA ?_ ?_ _|refine blS ?_ ?_ _|refine blT (by assumption) ?_ ?_);focus (go_size;done)))⟩
   intro W' hW'
   have hfar : ∀ b,w.heap.size + 1 < b → b < w2.heap.size → W'.heap[b]? = w2.heap[b]?:=fun b h1 h2 => by
    refine (hW' b (.inr ⟨by omega, ?_⟩)).trans (Eq.trans ?_ (HAG.out b h1))
    ·simp only [World.size_setCell]
     rw [HSZ2.out];exact h2
    ·repeat rw [Below.heap_setCell _ _ _ _ (by show b ≠ w.heap.size + 1;omega)]
   refine RV.mk (d:=.mk ⟨kind,yes,neg,coef,sc,text,day⟩ l nm) HOK.out (HW.out.vlsR (by omega) fun b hb => ?_) ?_
   ·rcases hb with hb | hb
    ·omega
    ·exact (hfar b (by omega) (by omega)).trans (HB2.out.block b (by omega))
   ·show Nms W' (.slice NA nm.length NC) nm
    rw [← HM2.out]
    refine HNB.out W' fun b hb => ?_
    rcases hb with hb | hb
    ·omega
    ·exact hfar b (by omega) (by omega)
theorem copied_all : ∀ n,CopyOf (VR n)
 | 0,_,_,_,_,_,_,_,h => h.elim
 | n + 1,x,A,C,A2,C2,w,h6,h => by
  obtain ⟨s,l,nm⟩:=x
  exact copied_step (VR n) (fun _ _ _ _ _ h hb => h.below hb) (copied_all n) s l nm A C A2 C2 w h.1 h.2.1 h.2.2 (by have e:=VD.size_eq (.mk s l nm);rw [e] at h6;exact Nat.le_trans (Nat.le_add_left _ _) h6)
theorem copied_any (x : VD) (A : Option Addr) (C : Nat) (A2 : Option Addr) (C2 : Nat) (w : World) (h6 : x.size ≤ 1000000) (h : VA w x A C A2 C2) : Calls Tryz.prog 41 #[vargs x A C A2 C2] w (RetC x w):=by
 obtain ⟨n,h⟩:=h
 exact copied_all n x A C A2 C2 w h6 h
end Go.Proofs.YtkjecoanlppeaaaGreatDoor



namespace Go.Proofs.YtkjecoanlppeaaaGreatDoor
open Go.RowKit

theorem VB.up {h0 lo : Nat} {w W : World} {d : VD} {A : Option Addr} {C : Nat} {A2 : Option Addr} {C2 : Nat} (h : VB h0 lo w.heap.size w d A C A2 C2) (h0w : h0 ≤ w.heap.size) (hb : Below w.heap.size w W) : VB h0 lo W.heap.size W d A C A2 C2 :=
 VB.wide (h.move fun b hb' => hb.block b (by omega)) (Nat.le_refl _) hb.size
/-- a value and an error are handed back; the value reads as it reads as long as the blocks below h0, and those from lo on, stand -/
def RetX (h0 lo : Nat) (r : VD × Int) (w : World) (e : Ending) (w' : World) : Prop:=∃ A C A2 C2,e = .returned (.tuple #[vargs r.1 A C A2 C2,.int .i64 r.2]) ∧ VB h0 lo w'.heap.size w' r.1 A C A2 C2 ∧ Below w.heap.size w w'
/-- a row of values: it and they read as they read as long as those blocks stand -/
def RobL (h0 lo : Nat) (w : World) (L : Value) (l : List VD) : Prop:=∃ A C,L = .slice A l.length C ∧ (l.length ≤ 1048576 ∧ l.length ≤ C ∧ C ≤ maxLen) ∧ ∀ r,r < l.length → ∃ b o A1 C1 A2 C2,A = some ⟨b,o,none⟩ ∧ (b < h0 ∨ (lo ≤ b ∧ b < w.heap.size)) ∧ At w b (o + r * 10) (vcs (vg l r) A1 C1 A2 C2) ∧ VB h0 lo w.heap.size w (vg l r) A1 C1 A2 C2
theorem RobL.is {h0 lo : Nat} {w : World} {L : Value} {l : List VD} (h : RobL h0 lo w L l) : ∃ A C,L = .slice A l.length C ∧ l.length ≤ 1048576:=by
 obtain ⟨A,C,h1,h2,_⟩:=h
 exact ⟨A,C,h1,h2.1⟩
theorem RobL.at {h0 lo : Nat} {w : World} {A : Option Addr} {n C : Nat} {l : List VD} (h : RobL h0 lo w (.slice A n C) l) {r : Nat} (hr : r < l.length) : ∃ b o A1 C1 A2 C2,A = some ⟨b,o,none⟩ ∧ At w b (o + r * 10) ((vg l r).s.cs ++ [.slice A1 (vg l r).list.length C1,.slice A2 (vg l r).names.length C2]) ∧ VB h0 lo w.heap.size w (vg l r) A1 C1 A2 C2:=by
 obtain ⟨A',C',h1,h2,h3⟩:=h
 injection h1 with e1 _ _
 subst e1
 obtain ⟨b,o,A1,C1,A2,C2,k1,k2,k3,k4⟩:=h3 r hr
 exact ⟨b,o,A1,C1,A2,C2,k1,k3,k4⟩
theorem RobL.lists {h0 lo : Nat} {w w' : World} {L : Value} {l : List VD} (h : RobL h0 lo w L l) (hag : Agr h0 lo w.heap.size w w') : Vls (RV w') w' L l:=by
 obtain ⟨A,C,h1,h2,h3⟩:=h
 refine ⟨A,C,h1,h2,fun r hr => ?_⟩
 obtain ⟨b,o,A1,C1,A2,C2,k1,k2,k3,k4⟩:=h3 r hr
 exact ⟨b,o,A1,C1,A2,C2,k1,fun j hj => (hag.cell k2 _).trans (k3 j hj),k4 w' hag⟩
theorem RobL.vls {h0 lo : Nat} {w : World} {L : Value} {l : List VD} (h : RobL h0 lo w L l) : Vls (RV w) w L l:=h.lists fun _ _ => rfl
theorem RobL.up {h0 lo : Nat} {w W : World} {L : Value} {l : List VD} (h : RobL h0 lo w L l) (h0w : h0 ≤ w.heap.size) (hb : Below w.heap.size w W) : RobL h0 lo W L l:=by
 obtain ⟨A,C,h1,h2,h3⟩:=h
 have hs:=hb.size
 refine ⟨A,C,h1,h2,fun r hr => ?_⟩
 obtain ⟨b,o,A1,C1,A2,C2,k1,k2,k3,k4⟩:=h3 r hr
 exact ⟨b,o,A1,C1,A2,C2,k1,by omega,k3.below hb,k4.up h0w hb⟩
/-- a row of values in a block of the call's own, from B on; the values read as they read as long as the blocks below h0, and those from L up to N, stand -/
def OwnVX (B L N h0 : Nat) (w : World) (v : Value) (l : List VD) : Prop:=∃ cs : List (List Value),cs.length = l.length ∧ w.ownsRow B 34 10 v l.length cs.flatten ∧ ∀ i,i < l.length → ∃ A C A2 C2,cs[i]? = some (vcs (vg l i) A C A2 C2) ∧ VB h0 L N w (vg l i) A C A2 C2
theorem OwnVX.nil (B L N h0 : Nat) (w : World) : OwnVX B L N h0 w (.slice none 0 0) []:=⟨[],rfl,World.ownsRow_nil _ _ _ _,fun i hi => absurd hi (Nat.not_lt_zero _)⟩
theorem OwnVX.below {B L N h0 : Nat} {w w' : World} {v : Value} {l : List VD} (h : OwnVX B L N h0 w v l) (h0w : h0 ≤ w.heap.size) (hNw : N ≤ w.heap.size) (hb : Below w.heap.size w w') : OwnVX B L N h0 w' v l:=by
 obtain ⟨cs,h1,h2,h3⟩:=h
 refine ⟨cs,h1,h2.kept (row:=none) ⟨hb.os,hb.tape,hb.output,hb.size,fun k hk _ => hb.block k hk⟩ ?_,fun i hi => ?_⟩
 ·cases e : v.ownBlock with
  | none => exact .inl rfl
  | some k => exact .inr (by simp)
 ·obtain ⟨A,C,A2,C2,h4,h5⟩:=h3 i hi
  exact ⟨A,C,A2,C2,h4,h5.move fun b hb' => hb.block b (by omega)⟩
theorem OwnVX.lt {B L N h0 : Nat} {w : World} {v : Value} {l : List VD} (h : OwnVX B L N h0 w v l) (g : Nat) (hg : v.ownBlock = some g) : B ≤ g ∧ g < w.heap.size:=by
 obtain ⟨cs,_,h2,_⟩:=h
 exact h2.lt g hg
theorem OwnVX.vlsR {B L N h0 : Nat} {w w' : World} {v : Value} {l : List VD} (h : OwnVX B L N h0 w v l) (hl : l.length ≤ 1048576) (hag : ∀ b,b < h0 ∨ (L ≤ b ∧ b < N) ∨ (B ≤ b ∧ b < w.heap.size) → w'.heap[b]? = w.heap[b]?) : Vls (RV w') w' v l:=by
 obtain ⟨cs,h1,h2,h3⟩:=h
 have hx : ∀ x ∈ cs,x.length = 10:=fun x hx => by
  obtain ⟨i,hi,rfl⟩:=List.getElem_of_mem hx
  obtain ⟨A,C,A2,C2,h4,_⟩:=h3 i (by omega)
  rw [List.getElem?_eq_getElem hi] at h4
  injection h4 with h4
  rw [h4];rfl
 rcases h2.2 with ⟨rfl,h0⟩ | ⟨g,cap,cur,rfl,hBg,hg,h5,h6,h7,h8⟩
 ·rw [List.eq_nil_of_length_eq_zero h0]
  exact ⟨none,0,rfl,⟨by simp,by simp,by decide⟩,fun r hr => absurd hr (Nat.not_lt_zero _)⟩
 ·have hgl : g < w.heap.size:=(Array.getElem?_eq_some_iff.1 hg).1
  have hg' : w'.heap[g]? = some (.cells cur 34 (0,0)):=(hag g (.inr (.inr ⟨hBg,hgl⟩))).trans hg
  refine ⟨some ⟨g,0,none⟩,cap,rfl,⟨hl,h5,h6⟩,fun r hr => ?_⟩
  obtain ⟨A,C,A2,C2,h9,hv⟩:=h3 r hr
  refine ⟨g,0,A,C,A2,C2,rfl,fun j hj => ?_,hv w' fun b hb => hag b (by omega)⟩
  have hj10 : j < 10:=hj
  have e:=flat_at cs r j _ hx h9 hj10
  rw [← h8,List.getElem?_take_of_lt (by omega)] at e
  rw [Nat.zero_add,cell_of_row w' g _ cur _ (0,0) hg']
  unfold vcs at e
  rw [← e];simp
theorem OwnVX.is {B L N h0 : Nat} {w : World} {v : Value} {l : List VD} (h : OwnVX B L N h0 w v l) : ∃ A C,v = .slice A l.length C ∧ l.length ≤ C ∧ C ≤ maxLen:=by
 obtain ⟨cs,h1,h2,h3⟩:=h
 rcases h2.2 with ⟨rfl,h0⟩ | ⟨g,cap,cur,rfl,_,hg,h5,h6,h7,h8⟩
 ·rw [h0];exact ⟨none,0,rfl,Nat.le_refl _,by decide⟩
 ·exact ⟨_,_,rfl,h5,h6⟩
end Go.Proofs.YtkjecoanlppeaaaGreatDoor



namespace Go.Proofs.YtkjecoanlppeaaaGreatDoor
open Go.RowKit

def sgs : List ByteArray:=[⟨#[]⟩,⟨#[85]⟩,⟨#[65]⟩,⟨#[80]⟩,⟨#[70]⟩,⟨#[82]⟩,⟨#[79]⟩,⟨#[67]⟩,⟨#[67,43]⟩,⟨#[67,60]⟩,⟨#[67,62]⟩,⟨#[67,35]⟩]
def sgn18 (n : Nat) : ByteArray:=sgs.getD n ByteArray.empty
theorem sgs_at {n : Nat} (h : n < 12) : (sgs.map Value.string)[n]? = some (.string (sgn18 n)):=by
 unfold sgn18
 rw [List.getElem?_map,List.getD_eq_getElem?_getD,List.getElem?_eq_getElem (show n < sgs.length from h)];rfl
theorem sgs_at1 {n : Nat} (h : n < 11) : ((sgs.drop 1).map Value.string)[n]? = some (.string (sgn18 (n + 1))):=by
 unfold sgn18
 rw [List.getElem?_map,List.getD_eq_getElem?_getD,List.getElem?_drop,Nat.add_comm 1 n,List.getElem?_eq_getElem (show n + 1 < sgs.length from by show n + 1 < 12;omega)];rfl
theorem sgs_drop {n : Nat} (h : n < 11) : (sgs.drop 1).getD n ByteArray.empty = sgn18 (n + 1):=by
 unfold sgn18
 rw [List.getD_eq_getElem?_getD,List.getElem?_drop,Nat.add_comm 1 n,List.getD_eq_getElem?_getD]
theorem rsigns_any (w : World) : Calls Tryz.prog 33 #[] w fun e w' => ∃ g,e = .returned (.slice (some ⟨g,0,none⟩) 12 12) ∧ Bk w' g 9 (sgs.map Value.string) ∧ Below w.heap.size w w':=by
 have e : sgs.map Value.string = [.string ⟨#[]⟩,.string ⟨#[85]⟩,.string ⟨#[65]⟩,.string ⟨#[80]⟩,.string ⟨#[70]⟩,.string ⟨#[82]⟩,.string ⟨#[79]⟩,.string ⟨#[67]⟩,.string ⟨#[67,43]⟩,.string ⟨#[67,60]⟩,.string ⟨#[67,62]⟩,.string ⟨#[67,35]⟩]:=rfl
 rw [e]
 clear e
 go_enter Tryz.func33,Tryz.ntmps33
 go_wp2_with fail
 go_ret
 exact ⟨_,rfl,Bk.new_ rfl,by (repeat' first|(with_reducible first|exact blR _ _|assumption|refine blD ?_|refine blN ?_ _)|((with_reducible first|refine blA ?_ ?_ _|refine blS ?_ ?_ _|refine blT (by assumption) ?_ ?_);focus (go_size;done)))⟩
theorem hsigns_any (w : World) : Calls Tryz.prog 34 #[] w fun e w' => ∃ g,e = .returned (.slice (some ⟨g,0,none⟩) 11 11) ∧ Bk w' g 9 ((sgs.drop 1).map Value.string) ∧ Below w.heap.size w w':=by
 have e : (sgs.drop 1).map Value.string = [.string ⟨#[85]⟩,.string ⟨#[65]⟩,.string ⟨#[80]⟩,.string ⟨#[70]⟩,.string ⟨#[82]⟩,.string ⟨#[79]⟩,.string ⟨#[67]⟩,.string ⟨#[67,43]⟩,.string ⟨#[67,60]⟩,.string ⟨#[67,62]⟩,.string ⟨#[67,35]⟩]:=rfl
 rw [e]
 clear e
 go_enter Tryz.func34,Tryz.ntmps34
 go_wp2_with fail
 go_ret
 exact ⟨_,rfl,Bk.new_ rfl,by (repeat' first|(with_reducible first|exact blR _ _|assumption|refine blD ?_|refine blN ?_ _)|((with_reducible first|refine blA ?_ ?_ _|refine blS ?_ ?_ _|refine blT (by assumption) ?_ ?_);focus (go_size;done)))⟩
def sgF (p : Int) : ByteArray:=if 1 ≤ p ∧ p ≤ 11 then sgn18 p.toNat else ⟨#[]⟩
def sgE (p : Int) : Int:=if 1 ≤ p ∧ p ≤ 11 then 0 else 1
set_option maxHeartbeats 400000 in
theorem docsign_any (p : Int) (w : World) : Calls Tryz.prog 16 #[.int .i64 p] w fun e w' => e = .returned (.tuple #[.string (sgF p),.int .i64 (sgE p)]) ∧ Below w.heap.size w w':=by
 unfold sgF sgE
 by_cases h : 1 ≤ p ∧ p ≤ 11
 ·rw [if_pos h,if_pos h]
  obtain ⟨h1,h2⟩:=h
  obtain ⟨n,rfl⟩ : ∃ n : Nat,p = n:=⟨p.toNat,by omega⟩
  have hn : n < 12:=by omega
  have hc1 : ¬ (n : Int) < 1:=by omega
  have hc2 : ¬ (11 : Int) < (n : Int):=by omega
  have hc3 : (n : Int) < 12:=by omega
  rw [Int.toNat_natCast]
  have HS:=Lib.hid (fun (W : World) => rsigns_any W)
  have HN:=Lib.hid (sgs_at hn)
  obtain ⟨s,hs⟩ : ∃ s,s = sgn18 n:=⟨_,rfl⟩
  rw [← hs] at HN ⊢
  clear hs
  go_enter Tryz.func16,Tryz.ntmps16
  go_wp2_with (go_at_call 33;(with_reducible refine (HS.out _).mono ?_);rintro _ w2 ⟨g,rfl,hk,hb2⟩;have hc:=hk.cell n HN.out;have hb2s:=hb2.size;clear hk)
  go_ret2
  exact ⟨rfl,by (repeat' first|(with_reducible first|exact blR _ _|assumption|refine blD ?_|refine blN ?_ _)|((with_reducible first|refine blA ?_ ?_ _|refine blS ?_ ?_ _|refine blT (by assumption) ?_ ?_);focus (go_size;done)))⟩
 ·rw [if_neg h,if_neg h]
  have hcase : p < 1 ∨ (¬ p < 1 ∧ 11 < p):=by omega
  clear h
  rcases hcase with h1 | ⟨h1,h2⟩
  all_goals
   go_enter Tryz.func16,Tryz.ntmps16
   go_wp2_with fail
   go_ret2
   exact ⟨rfl,by (repeat' first|(with_reducible first|exact blR _ _|assumption|refine blD ?_|refine blN ?_ _)|((with_reducible first|refine blA ?_ ?_ _|refine blS ?_ ?_ _|refine blT (by assumption) ?_ ?_);focus (go_size;done)))⟩
set_option maxHeartbeats 400000 in
theorem sign18_any (p : Int) (w : World) : Calls Tryz.prog 17 #[.int .i64 p] w fun e w' => e = .returned (.tuple #[.string (sgF p),.int .i64 (sgE p)]) ∧ Below w.heap.size w w':=by
 unfold sgF sgE
 by_cases h : 1 ≤ p ∧ p ≤ 11
 ·rw [if_pos h,if_pos h]
  obtain ⟨h1,h2⟩:=h
  obtain ⟨n,rfl⟩ : ∃ n : Nat,p = (n : Int) + 1:=⟨(p - 1).toNat,by omega⟩
  have hn : n < 11:=by omega
  have hc1 : ¬ (n : Int) + 1 < 1:=by omega
  have hc2 : ¬ (11 : Int) < (n : Int) + 1:=by omega
  have hc3 : (n : Int) < 11:=by omega
  have e : ((n : Int) + 1).toNat = n + 1:=by omega
  rw [e]
  have HS:=Lib.hid (fun (W : World) => hsigns_any W)
  have HN:=Lib.hid (sgs_at1 hn)
  obtain ⟨s,hs⟩ : ∃ s,s = sgn18 (n + 1):=⟨_,rfl⟩
  rw [← hs] at HN ⊢
  clear hs e
  go_enter Tryz.func17,Tryz.ntmps17
  go_wp2_with (go_at_call 34;(with_reducible refine (HS.out _).mono ?_);rintro _ w2 ⟨g,rfl,hk,hb2⟩;have hc:=hk.cell n HN.out;have hb2s:=hb2.size;clear hk)
  go_ret2
  exact ⟨rfl,by (repeat' first|(with_reducible first|exact blR _ _|assumption|refine blD ?_|refine blN ?_ _)|((with_reducible first|refine blA ?_ ?_ _|refine blS ?_ ?_ _|refine blT (by assumption) ?_ ?_);focus (go_size;done)))⟩
 ·rw [if_neg h,if_neg h]
  have hcase : p < 1 ∨ (¬ p < 1 ∧ 11 < p):=by omega
  clear h
  rcases hcase with h1 | ⟨h1,h2⟩
  all_goals
   go_enter Tryz.func17,Tryz.ntmps17
   go_wp2_with fail
   go_ret2
   exact ⟨rfl,by (repeat' first|(with_reducible first|exact blR _ _|assumption|refine blD ?_|refine blN ?_ _)|((with_reducible first|refine blA ?_ ?_ _|refine blS ?_ ?_ _|refine blT (by assumption) ?_ ?_);focus (go_size;done)))⟩
noncomputable def polI (x : ByteArray) : Int:=Lib.idxOfS ((sgs.drop 1).take 11) x
noncomputable def polV (x : ByteArray) : Int:=if polI x < 0 then 0 else polI x + 1
noncomputable def polE (x : ByteArray) : Int:=if polI x < 0 then 5 else 0
theorem polI_cases (x : ByteArray) : (polI x = -1 ∧ ∀ j,j < 11 → sgn18 (j + 1) ≠ x) ∨ ∃ k : Nat,k < 11 ∧ polI x = k ∧ sgn18 (k + 1) = x ∧ ∀ j,j < k → sgn18 (j + 1) ≠ x:=by
 have key : ∀ n,n ≤ 11 → (∀ j,j < n → sgn18 (j + 1) ≠ x) ∨ ∃ k : Nat,k < n ∧ sgn18 (k + 1) = x ∧ ∀ j,j < k → sgn18 (j + 1) ≠ x:=fun n => by
  induction n with
  | zero => intro _;exact .inl fun j hj => absurd hj (Nat.not_lt_zero _)
  | succ n ih =>
   intro hn
   rcases ih (by omega) with h | ⟨k,h1,h2,h3⟩
   ·by_cases e : sgn18 (n + 1) = x
    ·exact .inr ⟨n,by omega,e,h⟩
    ·refine .inl fun j hj => ?_
     by_cases e2 : j = n
     ·subst e2;exact e
     ·exact h j (by omega)
   ·exact .inr ⟨k,by omega,h2,h3⟩
 rcases key 11 (Nat.le_refl _) with h | ⟨k,h1,h2,h3⟩
 ·exact .inl ⟨Lib.idxOfS_miss _ 11 x fun j hj => by rw [sgs_drop hj];exact h j hj,h⟩
 ·exact .inr ⟨k,h1,Lib.idxOfS_hit _ 11 k x h1 (by decide) (by rw [sgs_drop h1];exact h2) fun j hj => by rw [sgs_drop (by omega)];exact h3 j hj,h2,h3⟩
set_option maxHeartbeats 400000 in
theorem policy18_any (x : ByteArray) (w : World) : Calls Tryz.prog 19 #[.string x] w fun e w' => e = .returned (.tuple #[.int .i64 (polV x),.int .i64 (polE x)]) ∧ Below w.heap.size w w':=by
 have HS:=Lib.hid (fun (W : World) => hsigns_any W)
 have HI:=Lib.hid (fun (g : Nat) (W : World) (hk : Bk W g 9 ((sgs.drop 1).map Value.string)) => Tryz.slices_Index_string g 0 11 11 (sgs.drop 1) x W (by decide) (by decide) (fun j hj => by
  have hj2 : j < 11:=hj
  rw [Nat.zero_add,hk.cell j (sgs_at1 hj2),sgs_drop hj2]))
 have e : Lib.idxOfS ((sgs.drop 1).take 11) x = polI x:=rfl
 rw [e] at HI
 clear e
 unfold polV polE
 have hcase : polI x = -1 ∨ ∃ k : Nat,k < 11 ∧ polI x = k:=by
  rcases polI_cases x with ⟨h,_⟩ | ⟨k,h1,h2,_⟩
  ·exact .inl h
  ·exact .inr ⟨k,h1,h2⟩
 rcases hcase with h | ⟨k,hk,h⟩
 ·rw [h] at HI ⊢
  rw [if_pos (by decide),if_pos (by decide)]
  clear h
  go_enter Tryz.func19,Tryz.ntmps19
  go_wp2_with (first | (go_at_call 34;(with_reducible refine (HS.out _).mono ?_);rintro _ w2 ⟨g,rfl,hk,hb2⟩;have HK:=Lib.hid hk;clear hk;have hb2s:=hb2.size) | (go_at_call 35;(with_reducible refine (HI.out _ _ HK.out).mono ?_);rintro _ _ ⟨rfl,rfl⟩))
  go_ret2
  exact ⟨rfl,by (repeat' first|(with_reducible first|exact blR _ _|assumption|refine blD ?_|refine blN ?_ _)|((with_reducible first|refine blA ?_ ?_ _|refine blS ?_ ?_ _|refine blT (by assumption) ?_ ?_);focus (go_size;done)))⟩
 ·rw [h] at HI ⊢
  rw [if_neg (by omega),if_neg (by omega)]
  have hk1 : ¬ (k : Int) < 0:=by omega
  have hk2 : (k : Int) < 11:=by omega
  clear h
  go_enter Tryz.func19,Tryz.ntmps19
  go_wp2_with (first | (go_at_call 34;(with_reducible refine (HS.out _).mono ?_);rintro _ w2 ⟨g,rfl,hk,hb2⟩;have HK:=Lib.hid hk;clear hk;have hb2s:=hb2.size) | (go_at_call 35;(with_reducible refine (HI.out _ _ HK.out).mono ?_);rintro _ _ ⟨rfl,rfl⟩))
  go_ret2
  exact ⟨rfl,by (repeat' first|(with_reducible first|exact blR _ _|assumption|refine blD ?_|refine blN ?_ _)|((with_reducible first|refine blA ?_ ?_ _|refine blS ?_ ?_ _|refine blT (by assumption) ?_ ?_);focus (go_size;done)))⟩
set_option maxHeartbeats 400000 in
theorem docpolicy_any (x : ByteArray) (w : World) : Calls Tryz.prog 18 #[.string x] w fun e w' => e = .returned (.tuple #[.int .i64 (polV x),.int .i64 (polE x)]) ∧ Below w.heap.size w w':=by
 have HS:=Lib.hid (fun (W : World) => rsigns_any W)
 obtain ⟨v,hv⟩ : ∃ v,v = polV x:=⟨_,rfl⟩
 obtain ⟨z,hz⟩ : ∃ z,z = polE x:=⟨_,rfl⟩
 rw [← hv,← hz]
 have HH : Hid (∀ k,k < 11 → sgn18 (k + 1) = x → (∀ j,j < k → sgn18 (j + 1) ≠ x) → v = (k : Int) + 1 ∧ z = 0):=Lib.hid (fun k hk e hne => by
  have h : polI x = k:=Lib.idxOfS_hit _ 11 k x hk (by decide) (by rw [sgs_drop hk];exact e) fun j hj => by rw [sgs_drop (by omega)];exact hne j hj
  rw [hv,hz]
  unfold polV polE
  rw [h,if_neg (by omega),if_neg (by omega)]
  exact ⟨rfl,rfl⟩)
 have HM : Hid ((∀ j,j < 11 → sgn18 (j + 1) ≠ x) → v = 0 ∧ z = 5):=Lib.hid (fun hne => by
  have h : polI x = -1:=Lib.idxOfS_miss _ 11 x fun j hj => by rw [sgs_drop hj];exact hne j hj
  rw [hv,hz]
  unfold polV polE
  rw [h,if_pos (by decide),if_pos (by decide)]
  exact ⟨rfl,rfl⟩)
 clear hv hz
 go_enter Tryz.func18,Tryz.ntmps18
 go_wp2_with (go_at_call 33;(with_reducible refine (HS.out _).mono ?_);rintro _ w2 ⟨g,rfl,hk,hb2⟩;have HK:=Lib.hid hk;clear hk;have hb2s:=hb2.size)
 go_loopg [5] 11 (fun k s5 wr => ∃ t : Nat,k + t = 11 ∧ s5 = .int .i64 ((t : Int) + 1) ∧ Hid (∀ j,j < t → sgn18 (j + 1) ≠ x) ∧ wr = w2)
 case atStart => exact ⟨0,rfl,rfl,Lib.hid (fun j hj => absurd hj (Nat.not_lt_zero _)),rfl⟩
 case round =>
  obtain ⟨t,hk,rfl,HN,hwr⟩:=hrel
  subst hwr
  have HKK:=Lib.hid hk
  have ht : t ≤ 11:=by omega
  clear hk
  by_cases hlt : t < 11
  ·have hc:=HK.out.cell (t + 1) (sgs_at (show t + 1 < 12 by omega))
   have hlt1 : (t : Int) + 1 < 12:=by omega
   obtain ⟨s,hs⟩ : ∃ s,s = sgn18 (t + 1):=⟨_,rfl⟩
   rw [← hs] at hc
   have HSG:=Lib.hid hs
   clear hs
   by_cases e : s = x
   ·obtain ⟨rfl,rfl⟩:=HH.out t hlt (by rw [← HSG.out,e]) HN.out
    subst e
    go_wp2_with fail
    go_ret2
    exact ⟨rfl,by (repeat' first|(with_reducible first|exact blR _ _|assumption|refine blD ?_|refine blN ?_ _)|((with_reducible first|refine blA ?_ ?_ _|refine blS ?_ ?_ _|refine blT (by assumption) ?_ ?_);focus (go_size;done)))⟩
   ·have e1 : (s.toList == x.toList) = false:=(Lib.bytes_beq_false_iff s x).2 e
    have HNE:=Lib.hid e
    clear e
    go_wp2_with fail
    go_roundg (gk - 1)
    case measure => have:=HKK.out;omega
    case rel => exact ⟨t + 1,by have:=HKK.out;omega,by go_num,Lib.hid (fun j hj => by
     by_cases e : j = t
     ·subst e;rw [← HSG.out];exact HNE.out
     ·exact HN.out j (by omega)),rfl⟩
  ·obtain rfl : t = 11:=by omega
   obtain ⟨rfl,rfl⟩:=HM.out HN.out
   clear hlt
   go_wp2_with fail
   go_ret2
   exact ⟨rfl,by (repeat' first|(with_reducible first|exact blR _ _|assumption|refine blD ?_|refine blN ?_ _)|((with_reducible first|refine blA ?_ ?_ _|refine blS ?_ ?_ _|refine blT (by assumption) ?_ ?_);focus (go_size;done)))⟩
end Go.Proofs.YtkjecoanlppeaaaGreatDoor



namespace Go.Proofs.YtkjecoanlppeaaaGreatDoor
open Go.RowKit
open Go.ChangeShapes Go.WideShapes Go.ChangeAt
open Go.ChangeMaps (open_string shut_string)

theorem first_is : Rows.laid_unicode_utf8_first = Lib.firstData:=by kernel_rfl
theorem accept_is : (Rows.laid_unicode_utf8_acceptRanges : DataW Unit) = Lib.acceptData:=by kernel_rfl
theorem tabs_laid {W : World} (hL : laidMet Tryz.prog [("unicode/utf8.acceptRanges", Rows.laid_unicode_utf8_acceptRanges), ("unicode/utf8.first", Rows.laid_unicode_utf8_first)] W) : Tabs W := by
 rw [first_is,accept_is] at hL
 exact utf8Tabs_of_readsT (U8Types.of196 Tryz.lays196) ⟨by kernel_rfl,by kernel_rfl,by kernel_rfl,by kernel_rfl,by kernel_rfl,by kernel_rfl,by kernel_rfl⟩ (Lib.laidMet.reads hL (.tail _ (.head _))) (Lib.laidMet.reads hL (.head _))
end Go.Proofs.YtkjecoanlppeaaaGreatDoor

