/- WideSums: for all numbers a and b of two words the program's Cmp, Add, Sub and Mul and the document's answer the same: the law returns true, and what was handed in reads as it did. No condition. -/
import Derived.Test.YtnjiibeomailhaaRs
import Derived.Test.YtnjiibeomailhaaWm
import Derived.Test.YtnjiibeomailhaaKn
import Derived.Test.YtnjiibeomailhaaLo
import Derived.Test.YtnjiibeomailhaaEq
import Derived.ProofKit
import Derived.OpenShut
import Derived.ShutString
import Derived.ChangeOld
import Derived.Below
import Derived.Lib.SmallJoins
set_option linter.unusedSimpArgs false
set_option linter.unusedVariables false
namespace Go.Proofs.Ytnjiibeomailhaa
open Go.RowKit
open Go.ChangeShapes Go.WideShapes Go.ChangeAt
open Go.ChangeMaps (open_string shut_string)
set_option linter.unusedVariables false
theorem own : ownKnob Try.prog.godebug = none := by kernel_rfl
theorem laidOut : laidOutB Try.prog = true := by kernel_rfl

set_option maxHeartbeats 4000000 in
theorem walk_WideSums (a b : Int) (ha : (Lit.int .u64 a).wf = true) (hb : (Lit.int .u64 b).wf = true) (x y : Int) (hx : (Lit.int .u64 x).wf = true) (hy : (Lit.int .u64 y).wf = true) (w : World) :
    Calls Try.prog 5 #[.agg #[.int .u64 a, .int .u64 b], .agg #[.int .u64 x, .int .u64 y]] w fun e w' => e = .returned (.bool true) ∧ Below w.heap.size w w' := by
  obtain ⟨a0, a1⟩ := wf_word ha
  obtain ⟨b0, b1⟩ := wf_word hb
  obtain ⟨x0, x1⟩ := wf_word hx
  obtain ⟨y0, y1⟩ := wf_word hy
  obtain ⟨n, hn, hne, rfl, rfl⟩ := wd_make a b a0 a1 b0 b1
  obtain ⟨m, hm, hme, rfl, rfl⟩ := wd_make x y x0 x1 y0 y1
  clear ha hb hx hy a0 a1 b0 b1 x0 x1 y0 y1 hne hme
  have H1 := Lib.hid (fun W => docadd_any n m hn hm W)
  have H2 := Lib.hid (fun W => add_any n m hn hm W)
  have H3 := Lib.hid (fun W => docsub_any n m hn hm W)
  have H4 := Lib.hid (fun W => sub_any n m hn hm W)
  have H5 := Lib.hid (fun W => doccmp_any n m hn hm W)
  have H6 := Lib.hid (fun W => cmp_any n m hn hm W)
  have H7 := Lib.hid (fun W => docmul_any n m hn hm W)
  have H8 := Lib.hid (fun W => mul_any n m hn hm W)
  generalize fitW (n + m) = s at *
  generalize over (n + m) = e1 at *
  generalize subW n m = d at *
  generalize under n m = e2 at *
  generalize cmpN n m = cc at *
  generalize n * m = p at *
  generalize wd s 0 = s0 at *
  generalize wd s 1 = s1 at *
  generalize wd d 0 = d0 at *
  generalize wd d 1 = d1 at *
  generalize wd p 0 = p0 at *
  generalize wd p 1 = p1 at *
  generalize wd p 2 = p2 at *
  generalize wd p 3 = p3 at *
  generalize wd n 0 = n0 at *
  generalize wd n 1 = n1 at *
  generalize wd m 0 = m0 at *
  generalize wd m 1 = m1 at *
  have q : ∀ W, (binOp .eql 24 (.agg #[.int .u64 p0, .int .u64 p1, .int .u64 p2, .int .u64 p3]) (.agg #[.int .u64 p0, .int .u64 p1, .int .u64 p2, .int .u64 p3])).run Try.prog W = .ok (.bool true) W := fun W => by rw [eq_long]; simp
  clear hn hm
  go_enter Try.func5, Try.ntmps5
  go_wp2_with (first
    | ((go_at_call 10; with_reducible refine (known_any _).mono ?_); rintro _ w1 ⟨rfl, hb1⟩; have hb1s := hb1.size; (try simp only [World.size_alloc, World.size_setCell, World.size_drew, World.heap_drewN] at hb1s); obtain ⟨hb1c, hb1f⟩ := bcell hb1; (try have : w.heap.size < w1.heap.size := by omega); (try have : w.heap.size + 1 < w1.heap.size := by omega); (try have : w.heap.size + 1 + 1 < w1.heap.size := by omega); (try have : w.heap.size + 1 + 1 + 1 < w1.heap.size := by omega))
    | ((go_at_call 15; with_reducible refine (H1.out _).mono ?_); rintro _ w2 ⟨rfl, hb2⟩; have hb2s := hb2.size; (try simp only [World.size_alloc, World.size_setCell, World.size_drew, World.heap_drewN] at hb2s); obtain ⟨hb2c, hb2f⟩ := bcell hb2; (try have : w.heap.size < w2.heap.size := by omega); (try have : w.heap.size + 1 < w2.heap.size := by omega); (try have : w.heap.size + 1 + 1 < w2.heap.size := by omega); (try have : w.heap.size + 1 + 1 + 1 < w2.heap.size := by omega); (try have : w1.heap.size < w2.heap.size := by omega); (try have : w1.heap.size + 1 < w2.heap.size := by omega); (try have : w1.heap.size + 1 + 1 < w2.heap.size := by omega); (try have : w1.heap.size + 1 + 1 + 1 < w2.heap.size := by omega))
    | ((go_at_call 16; with_reducible refine (H2.out _).mono ?_); rintro _ w3 ⟨rfl, hb3⟩; have hb3s := hb3.size; (try simp only [World.size_alloc, World.size_setCell, World.size_drew, World.heap_drewN] at hb3s); obtain ⟨hb3c, hb3f⟩ := bcell hb3; (try have : w.heap.size < w3.heap.size := by omega); (try have : w.heap.size + 1 < w3.heap.size := by omega); (try have : w.heap.size + 1 + 1 < w3.heap.size := by omega); (try have : w.heap.size + 1 + 1 + 1 < w3.heap.size := by omega); (try have : w1.heap.size < w3.heap.size := by omega); (try have : w1.heap.size + 1 < w3.heap.size := by omega); (try have : w1.heap.size + 1 + 1 < w3.heap.size := by omega); (try have : w1.heap.size + 1 + 1 + 1 < w3.heap.size := by omega); (try have : w2.heap.size < w3.heap.size := by omega); (try have : w2.heap.size + 1 < w3.heap.size := by omega); (try have : w2.heap.size + 1 + 1 < w3.heap.size := by omega); (try have : w2.heap.size + 1 + 1 + 1 < w3.heap.size := by omega))
    | ((go_at_call 17; with_reducible refine (H3.out _).mono ?_); rintro _ w4 ⟨rfl, hb4⟩; have hb4s := hb4.size; (try simp only [World.size_alloc, World.size_setCell, World.size_drew, World.heap_drewN] at hb4s); obtain ⟨hb4c, hb4f⟩ := bcell hb4; (try have : w.heap.size < w4.heap.size := by omega); (try have : w.heap.size + 1 < w4.heap.size := by omega); (try have : w.heap.size + 1 + 1 < w4.heap.size := by omega); (try have : w.heap.size + 1 + 1 + 1 < w4.heap.size := by omega); (try have : w1.heap.size < w4.heap.size := by omega); (try have : w1.heap.size + 1 < w4.heap.size := by omega); (try have : w1.heap.size + 1 + 1 < w4.heap.size := by omega); (try have : w1.heap.size + 1 + 1 + 1 < w4.heap.size := by omega); (try have : w2.heap.size < w4.heap.size := by omega); (try have : w2.heap.size + 1 < w4.heap.size := by omega); (try have : w2.heap.size + 1 + 1 < w4.heap.size := by omega); (try have : w2.heap.size + 1 + 1 + 1 < w4.heap.size := by omega); (try have : w3.heap.size < w4.heap.size := by omega); (try have : w3.heap.size + 1 < w4.heap.size := by omega); (try have : w3.heap.size + 1 + 1 < w4.heap.size := by omega); (try have : w3.heap.size + 1 + 1 + 1 < w4.heap.size := by omega))
    | ((go_at_call 18; with_reducible refine (H4.out _).mono ?_); rintro _ w5 ⟨rfl, hb5⟩; have hb5s := hb5.size; (try simp only [World.size_alloc, World.size_setCell, World.size_drew, World.heap_drewN] at hb5s); obtain ⟨hb5c, hb5f⟩ := bcell hb5; (try have : w.heap.size < w5.heap.size := by omega); (try have : w.heap.size + 1 < w5.heap.size := by omega); (try have : w.heap.size + 1 + 1 < w5.heap.size := by omega); (try have : w.heap.size + 1 + 1 + 1 < w5.heap.size := by omega); (try have : w1.heap.size < w5.heap.size := by omega); (try have : w1.heap.size + 1 < w5.heap.size := by omega); (try have : w1.heap.size + 1 + 1 < w5.heap.size := by omega); (try have : w1.heap.size + 1 + 1 + 1 < w5.heap.size := by omega); (try have : w2.heap.size < w5.heap.size := by omega); (try have : w2.heap.size + 1 < w5.heap.size := by omega); (try have : w2.heap.size + 1 + 1 < w5.heap.size := by omega); (try have : w2.heap.size + 1 + 1 + 1 < w5.heap.size := by omega); (try have : w3.heap.size < w5.heap.size := by omega); (try have : w3.heap.size + 1 < w5.heap.size := by omega); (try have : w3.heap.size + 1 + 1 < w5.heap.size := by omega); (try have : w3.heap.size + 1 + 1 + 1 < w5.heap.size := by omega); (try have : w4.heap.size < w5.heap.size := by omega); (try have : w4.heap.size + 1 < w5.heap.size := by omega); (try have : w4.heap.size + 1 + 1 < w5.heap.size := by omega); (try have : w4.heap.size + 1 + 1 + 1 < w5.heap.size := by omega)))
  have k2 : Bk (w5.alloc (.cells #[.int .u64 d1, .int .u64 d0] 27)) w.heap.size 27 [.int .u64 n1, .int .u64 n0] := by (repeat (first | (with_reducible assumption) | ((with_reducible refine Bk.new_ ?_); (first | rfl | (simp only [World.size_alloc, World.size_setCell, World.size_drew, World.heap_drewN]; done))) | (with_reducible refine Bk.alloc ?_ _) | (with_reducible refine Bk.drew ?_) | (with_reducible refine Bk.drewN ?_ _) | ((with_reducible refine Bk.far ?_ ?_ _); rotate_left; focus (simp only []; omega)) | ((with_reducible refine Bk.below ?_ (by with_reducible assumption) ?_); rotate_left; focus (go_size; done))))
  have k3 : Bk (w5.alloc (.cells #[.int .u64 d1, .int .u64 d0] 27)) (w.heap.size + 1) 27 [.int .u64 m1, .int .u64 m0] := by (repeat (first | (with_reducible assumption) | ((with_reducible refine Bk.new_ ?_); (first | rfl | (simp only [World.size_alloc, World.size_setCell, World.size_drew, World.heap_drewN]; done))) | (with_reducible refine Bk.alloc ?_ _) | (with_reducible refine Bk.drew ?_) | (with_reducible refine Bk.drewN ?_ _) | ((with_reducible refine Bk.far ?_ ?_ _); rotate_left; focus (simp only []; omega)) | ((with_reducible refine Bk.below ?_ (by with_reducible assumption) ?_); rotate_left; focus (go_size; done))))
  have k5 : Bk (w5.alloc (.cells #[.int .u64 d1, .int .u64 d0] 27)) w2.heap.size 27 [.int .u64 s1, .int .u64 s0] := by (repeat (first | (with_reducible assumption) | ((with_reducible refine Bk.new_ ?_); (first | rfl | (simp only [World.size_alloc, World.size_setCell, World.size_drew, World.heap_drewN]; done))) | (with_reducible refine Bk.alloc ?_ _) | (with_reducible refine Bk.drew ?_) | (with_reducible refine Bk.drewN ?_ _) | ((with_reducible refine Bk.far ?_ ?_ _); rotate_left; focus (simp only []; omega)) | ((with_reducible refine Bk.below ?_ (by with_reducible assumption) ?_); rotate_left; focus (go_size; done))))
  have k7 : Bk (w5.alloc (.cells #[.int .u64 d1, .int .u64 d0] 27)) w3.heap.size 27 [.int .u64 s1, .int .u64 s0] := by (repeat (first | (with_reducible assumption) | ((with_reducible refine Bk.new_ ?_); (first | rfl | (simp only [World.size_alloc, World.size_setCell, World.size_drew, World.heap_drewN]; done))) | (with_reducible refine Bk.alloc ?_ _) | (with_reducible refine Bk.drew ?_) | (with_reducible refine Bk.drewN ?_ _) | ((with_reducible refine Bk.far ?_ ?_ _); rotate_left; focus (simp only []; omega)) | ((with_reducible refine Bk.below ?_ (by with_reducible assumption) ?_); rotate_left; focus (go_size; done))))
  have k9 : Bk (w5.alloc (.cells #[.int .u64 d1, .int .u64 d0] 27)) w4.heap.size 27 [.int .u64 d1, .int .u64 d0] := by (repeat (first | (with_reducible assumption) | ((with_reducible refine Bk.new_ ?_); (first | rfl | (simp only [World.size_alloc, World.size_setCell, World.size_drew, World.heap_drewN]; done))) | (with_reducible refine Bk.alloc ?_ _) | (with_reducible refine Bk.drew ?_) | (with_reducible refine Bk.drewN ?_ _) | ((with_reducible refine Bk.far ?_ ?_ _); rotate_left; focus (simp only []; omega)) | ((with_reducible refine Bk.below ?_ (by with_reducible assumption) ?_); rotate_left; focus (go_size; done))))
  have k11 : Bk (w5.alloc (.cells #[.int .u64 d1, .int .u64 d0] 27)) w5.heap.size 27 [.int .u64 d1, .int .u64 d0] := Bk.new_ rfl
  have mb : Below w.heap.size w (w5.alloc (.cells #[.int .u64 d1, .int .u64 d0] 27)) := by (repeat' (first | (with_reducible exact Below.refl _ _) | (with_reducible assumption) | (with_reducible refine Below.drew ?_) | (with_reducible refine below_drewN ?_ _) | ((with_reducible refine Below.alloc ?_ ?_ _); rotate_left; focus (go_size; done)) | ((with_reducible refine Below.setCell ?_ ?_ _); rotate_left; focus (go_size; done)) | ((with_reducible refine Below.trans ?_ (Below.mono (by with_reducible assumption) ?_)); rotate_left; focus (go_size; done))))
  generalize w5.alloc (.cells #[.int .u64 d1, .int .u64 d0] 27) = W at *
  have mbs := mb.size
  have l2 := k2.lt
  have l3 := k3.lt
  have l5 := k5.lt
  have l7 := k7.lt
  have l9 := k9.lt
  have l11 := k11.lt
  clear hb1 hb2 hb3 hb4 hb5 hb1c hb2c hb3c hb4c hb5c hb1f hb2f hb3f hb4f hb5f
  generalize w5.heap.size = B11 at *
  generalize w4.heap.size = B9 at *
  generalize w3.heap.size = B7 at *
  generalize w2.heap.size = B5 at *
  have c20 := k2.cell 0 rfl
  have c21 := k2.cell 1 rfl
  have c30 := k3.cell 0 rfl
  have c31 := k3.cell 1 rfl
  have c50 := k5.cell 0 rfl
  have c51 := k5.cell 1 rfl
  have c70 := k7.cell 0 rfl
  have c71 := k7.cell 1 rfl
  have c90 := k9.cell 0 rfl
  have c91 := k9.cell 1 rfl
  have c110 := k11.cell 0 rfl
  have c111 := k11.cell 1 rfl
  clear k2 k3 k5 k7 k9 k11
  go_region_held3 (fun w' => (w'.cell? ⟨w.heap.size, 0, none⟩ = some (.int .u64 n1) ∧ w'.cell? ⟨w.heap.size, 1, none⟩ = some (.int .u64 n0) ∧ w'.cell? ⟨w.heap.size + 1, 0, none⟩ = some (.int .u64 m1) ∧ w'.cell? ⟨w.heap.size + 1, 1, none⟩ = some (.int .u64 m0) ∧ w'.cell? ⟨B5, 0, none⟩ = some (.int .u64 s1) ∧ w'.cell? ⟨B5, 1, none⟩ = some (.int .u64 s0) ∧ w'.cell? ⟨B7, 0, none⟩ = some (.int .u64 s1) ∧ w'.cell? ⟨B7, 1, none⟩ = some (.int .u64 s0) ∧ w'.cell? ⟨B9, 0, none⟩ = some (.int .u64 d1) ∧ w'.cell? ⟨B9, 1, none⟩ = some (.int .u64 d0) ∧ w'.cell? ⟨B11, 0, none⟩ = some (.int .u64 d1) ∧ w'.cell? ⟨B11, 1, none⟩ = some (.int .u64 d0))) (first | (go_keep; done) | (simp [go_sem]; done) | ((try dsimp only); (repeat' apply And.intro) <;> (first | (with_reducible assumption) | ((rw [World.cell?_alloc_lt _ _ _ (by show _ < _; omega)]); go_split_ands; (first | with_reducible assumption | (refine (World.cell?_alloc_lt _ _ _ (by show _ < _; omega)).symm.trans ?_; with_reducible assumption))) | ((rw [World.cell?_setCell_other _ _ _ _ (by intro e; injection e; omega)]); with_reducible assumption) | (go_keep; done) | (simp [go_sem]; done) | (simp (disch := go_size) [*, World.cell?_alloc_some, World.cell?_setCell_far]; done)))) (first | (go_at_call 19; refine (H6.out _).mono ?_; rintro _ w6 ⟨rfl, hb6⟩; have hb6s := hb6.size; (try simp only [World.size_alloc, World.size_setCell, World.size_drew, World.heap_drewN] at hb6s); obtain ⟨hb6c, hb6f⟩ := bcell hb6; (try have : w.heap.size < w6.heap.size := by omega); (try have : w.heap.size + 1 < w6.heap.size := by omega); (try have : B5 < w6.heap.size := by omega); (try have : B7 < w6.heap.size := by omega); (try have : B9 < w6.heap.size := by omega); (try have : B11 < w6.heap.size := by omega)) | (go_at_call 20; refine (H5.out _).mono ?_; rintro _ w7 ⟨rfl, hb7⟩; have hb7s := hb7.size; (try simp only [World.size_alloc, World.size_setCell, World.size_drew, World.heap_drewN] at hb7s); obtain ⟨hb7c, hb7f⟩ := bcell hb7; (try have : w.heap.size < w7.heap.size := by omega); (try have : w.heap.size + 1 < w7.heap.size := by omega); (try have : B5 < w7.heap.size := by omega); (try have : B7 < w7.heap.size := by omega); (try have : B9 < w7.heap.size := by omega); (try have : B11 < w7.heap.size := by omega)) | (go_at_call 21; refine (H8.out _).mono ?_; rintro _ w8 ⟨rfl, hb8⟩; have hb8s := hb8.size; (try simp only [World.size_alloc, World.size_setCell, World.size_drew, World.heap_drewN] at hb8s); obtain ⟨hb8c, hb8f⟩ := bcell hb8; (try have : w.heap.size < w8.heap.size := by omega); (try have : w.heap.size + 1 < w8.heap.size := by omega); (try have : B5 < w8.heap.size := by omega); (try have : B7 < w8.heap.size := by omega); (try have : B9 < w8.heap.size := by omega); (try have : B11 < w8.heap.size := by omega)) | (go_at_call 22; refine (H7.out _).mono ?_; rintro _ w9 ⟨rfl, hb9⟩; have hb9s := hb9.size; (try simp only [World.size_alloc, World.size_setCell, World.size_drew, World.heap_drewN] at hb9s); obtain ⟨hb9c, hb9f⟩ := bcell hb9; (try have : w.heap.size < w9.heap.size := by omega); (try have : w.heap.size + 1 < w9.heap.size := by omega); (try have : B5 < w9.heap.size := by omega); (try have : B7 < w9.heap.size := by omega); (try have : B9 < w9.heap.size := by omega); (try have : B11 < w9.heap.size := by omega)))
  all_goals
    go_wp2_with fail
    go_ret
    exact ⟨rfl, by (repeat' (first | (with_reducible exact Below.refl _ _) | (with_reducible assumption) | (with_reducible refine Below.drew ?_) | (with_reducible refine below_drewN ?_ _) | ((with_reducible refine Below.alloc ?_ ?_ _); rotate_left; focus (go_size; done)) | ((with_reducible refine Below.setCell ?_ ?_ _); rotate_left; focus (go_size; done)) | ((with_reducible refine Below.trans ?_ (Below.mono (by with_reducible assumption) ?_)); rotate_left; focus (go_size; done))))⟩

set_option maxRecDepth 100000 in
theorem lifted_WideSums (os : Os) (started : os.Started) (H : Type) (enc : TypeId × Value → H) :
    ReturnsInHanded {} Try.checked os 5 .any (Rows.wideSumsSpec.pre6 enc Try.prog Try.f5 Rows.wideSumsRow.domain false) (Rows.wideSumsSpec.post enc Try.prog Try.f5 false true false false) := by
  refine returnsInHanded_of_change (C := Try.checked) own started (by kernel_rfl) Try.func5
    (ChangeSpec.witness6 (enc := enc) (C := Try.checked) false ⟨#[], #[.agg #[.int .u64 0, .int .u64 0], .agg #[.int .u64 0, .int .u64 0]], []⟩ 8 (by kernel_rfl) (by kernel_rfl) (by kernel_rfl) (by kernel_rfl)) ?_
  intro W base args ds gs before hval0 hW hcnd _
  have hval : ∀ (j : Nat) t v, Try.f5.params[j]? = some t → args[j]? = some v → Value.okWide Try.prog W .any base t v := hval0
  have hW' := hW
  obtain ⟨p, q, hA0, hV, rfl, hfz, hnd⟩ := hW
  have hA : DataW.TrodAll enc Try.prog W 0 (fun _ => true) true Try.f5.params.toList args.toList ds p := hA0
  rw [Try.params5] at hA hval
  obtain ⟨v0, vs0, d0, ds0, p0, q0, hargs0, rfl, rfl, h0, r0⟩ := trodAll_cons hA
  obtain ⟨v1, vs1, d1, ds1, p1, q1, hargs1, rfl, rfl, h1, r1⟩ := trodAll_cons r0
  obtain ⟨rfl, rfl, rfl⟩ := trodAll_nil r1
  obtain rfl : args = #[v0, v1] := by cases args; simp_all
  obtain ⟨rfl, rfl⟩ := trodVars_none hV
  have k0 := h0
  have lt0 : ∀ x ∈ p0, x.block < W.heap.size := by obtain ⟨m, hm⟩ := k0; exact DataW.trod_lt m _ _ _ hm
  have k1 := h1
  have lt1 : ∀ x ∈ p1, x.block < W.heap.size := by obtain ⟨m, hm⟩ := k1; exact DataW.trod_lt m _ _ _ hm
  obtain ⟨c00, c01, y00, y01, m0, rfl, rfl, rfl, hy00, hy01⟩ := Joins.open_agg2 Try.underlying27 (by kernel_rfl) (by kernel_rfl) (hval 0 27 v0 rfl rfl) h0
  obtain ⟨a00, e00, rfl, w00⟩ := DataW.trod_int Try.underlying22 hy00
  simp at e00; subst e00
  obtain ⟨a01, e01, rfl, w01⟩ := DataW.trod_int Try.underlying22 hy01
  simp at e01; subst e01
  obtain ⟨c10, c11, y10, y11, m1, rfl, rfl, rfl, hy10, hy11⟩ := Joins.open_agg2 Try.underlying27 (by kernel_rfl) (by kernel_rfl) (hval 1 27 v1 rfl rfl) h1
  obtain ⟨a10, e10, rfl, w10⟩ := DataW.trod_int Try.underlying22 hy10
  simp at e10; subst e10
  obtain ⟨a11, e11, rfl, w11⟩ := DataW.trod_int Try.underlying22 hy11
  simp at e11; subst e11
  clear hA0 hval0
  refine (walk_WideSums a00 a01 w00 w01 a10 a11 w10 w11 W).mono fun e W' ⟨he, bel⟩ => ?_
  subst he
  exact ⟨_, rfl, _, _, _, [], _, [], hW', trodAll_mk1 (shut_bool Try.underlying4 _), (trodAll_cons_mk (Below.trod laidOut (by kernel_rfl) (of_decide_eq_true (by kernel_rfl)) k0 bel lt0) (trodAll_cons_mk (Below.trod laidOut (by kernel_rfl) (of_decide_eq_true (by kernel_rfl)) k1 bel lt1) trodAll_mk0)), rfl, bel.frame _, fun h => by cases h⟩

theorem WideSums_holds : Rows.WideSumsSaid :=
  OpenClaim.holds_of_wide 5 Try.f5 rfl rfl rfl rfl rfl rfl rfl ⟨rfl, rfl, rfl, rfl, rfl⟩ rfl rfl rfl rfl rfl (by kernel_rfl) Try.func5 (by kernel_rfl)
    (of_decide_eq_true (by kernel_rfl)) (by unfold Func.isWrapper; first | (rw [if_pos (by decide +kernel)]; kernel_rfl) | (rw [if_neg (by decide +kernel)]; exact ⟨rfl, rfl⟩))
    (fun os started H enc _ => lifted_WideSums os started H enc)
#print axioms WideSums_holds
end Go.Proofs.Ytnjiibeomailhaa
