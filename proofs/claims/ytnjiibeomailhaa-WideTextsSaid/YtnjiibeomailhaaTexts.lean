/- WideTexts: for all texts s and all numbers a of two words the program's Read and Text and the document's answer the same, and what Text tells is read back: the law returns true, and what was handed in reads as it did. No condition. -/
import Derived.Test.YtnjiibeomailhaaRo
import Derived.Test.YtnjiibeomailhaaRp
import Derived.Test.YtnjiibeomailhaaTx
import Derived.Test.YtnjiibeomailhaaTd
import Derived.Test.YtnjiibeomailhaaDigs
import Derived.Test.YtnjiibeomailhaaKn
import Derived.Test.YtnjiibeomailhaaLo
import Derived.Test.YtnjiibeomailhaaEq
import Derived.ProofKit
import Derived.OpenShut
import Derived.ShutString
import Derived.ChangeOld
import Derived.Below
import Derived.Lib.SmallJoins
set_option linter.unusedSimpArgs false
set_option linter.unusedVariables false
namespace Go.Proofs.Ytnjiibeomailhaa
open Go.RowKit
open Go.ChangeShapes Go.WideShapes Go.ChangeAt
open Go.ChangeMaps (open_string shut_string)
set_option linter.unusedVariables false
theorem own : ownKnob Try.prog.godebug = none := by kernel_rfl
theorem laidOut : laidOutB Try.prog = true := by kernel_rfl

theorem read_both (s : ByteArray) (hs : s.size ≤ maxLen) : ∃ x1 x0 ee : Int, (∀ w : World, Calls Try.prog 23 #[.string s] w fun e w' => e = .returned (.tuple #[.agg #[.int .u64 x1, .int .u64 x0], .int .i64 ee]) ∧ Below w.heap.size w w') ∧ (∀ w : World, Calls Try.prog 24 #[.string s] w fun e w' => e = .returned (.tuple #[.agg #[.int .u64 x1, .int .u64 x0], .int .i64 ee]) ∧ Below w.heap.size w w') := by
  cases h : okB s.data.toList
  · exact ⟨0, 0, 5, fun w => docread_bad s h hs w, fun w => read_bad s h hs w⟩
  · exact ⟨_, _, _, fun w => docread_ok s h hs w, fun w => read_ok s h hs w⟩
theorem read_txt (A L : Nat) (hA : A < 2 ^ 128) (hL : IsNd A L) (hL39 : L ≤ 39) (w : World) : Calls Try.prog 24 #[.string (txt A L)] w fun e w' => e = .returned (.tuple #[.agg #[.int .u64 (wd A 1), .int .u64 (wd A 0)], .int .i64 0]) ∧ Below w.heap.size w w' := by
  have e : (txt A L).data.toList = txl A L := rfl
  have hv : dvb (txl A L) 0 = A := dvb_txl A L hL.2.1
  have h := read_ok (txt A L) (by rw [e]; exact txl_ok hL) (by rw [txt_size]; unfold maxLen; omega) w
  rw [e] at h
  obtain ⟨q1, q2⟩ := rd_fits (l := txl A L) (by rw [hv]; exact hA)
  rw [q1, q2, hv] at h
  exact h
set_option maxHeartbeats 2000000 in
theorem walk_WideTexts (s : ByteArray) (hs : s.size ≤ 9223372036854775807) (x y : Int) (hx : (Lit.int .u64 x).wf = true) (hy : (Lit.int .u64 y).wf = true) (w : World) :
    Calls Try.prog 6 #[.string s, .agg #[.int .u64 x, .int .u64 y]] w fun e w' => e = .returned (.bool true) ∧ Below w.heap.size w w' := by
  obtain ⟨x0, x1⟩ := wf_word hx
  obtain ⟨y0, y1⟩ := wf_word hy
  obtain ⟨A, hA, hAe, rfl, rfl⟩ := wd_make x y x0 x1 y0 y1
  clear hx hy x0 x1 y0 y1 hAe
  obtain ⟨r1, r0, re, h1, h2⟩ := read_both s (by unfold maxLen; omega)
  obtain ⟨L, hL, hL39⟩ := nd_128 hA
  have H1 := Lib.hid h1
  have H2 := Lib.hid h2
  have H3 := Lib.hid (fun W => text_any A L hA hL hL39 W)
  have H4 := Lib.hid (fun W => doctext_any A L hA hL W)
  have H5 := Lib.hid (fun W => read_txt A L hA hL hL39 W)
  generalize txt A L = T at *
  generalize wd A 0 = n0 at *
  generalize wd A 1 = n1 at *
  have qe : ∀ a b : Int, ∀ W, (binOp .eql 27 (.agg #[.int .u64 a, .int .u64 b]) (.agg #[.int .u64 a, .int .u64 b])).run Try.prog W = .ok (.bool true) W := fun a b W => by rw [eq_wide]; simp
  clear hA hL hL39 h1 h2 hs
  go_enter Try.func6, Try.ntmps6
  go_wp2_with (first
    | ((go_at_call 10; with_reducible refine (known_any _).mono ?_); rintro _ w1 ⟨rfl, hb1⟩; have hb1s := hb1.size; (try simp only [World.size_alloc, World.size_setCell, World.size_drew, World.heap_drewN] at hb1s); obtain ⟨hb1c, hb1f⟩ := bcell hb1; (try have : w.heap.size < w1.heap.size := by omega); (try have : w.heap.size + 1 < w1.heap.size := by omega); (try have : w.heap.size + 1 + 1 < w1.heap.size := by omega); (try have : w.heap.size + 1 + 1 + 1 < w1.heap.size := by omega))
    | ((go_at_call 23; with_reducible refine (H1.out _).mono ?_); rintro _ w2 ⟨rfl, hb2⟩; have hb2s := hb2.size; (try simp only [World.size_alloc, World.size_setCell, World.size_drew, World.heap_drewN] at hb2s); obtain ⟨hb2c, hb2f⟩ := bcell hb2; (try have : w.heap.size < w2.heap.size := by omega); (try have : w.heap.size + 1 < w2.heap.size := by omega); (try have : w.heap.size + 1 + 1 < w2.heap.size := by omega); (try have : w.heap.size + 1 + 1 + 1 < w2.heap.size := by omega); (try have : w1.heap.size < w2.heap.size := by omega); (try have : w1.heap.size + 1 < w2.heap.size := by omega); (try have : w1.heap.size + 1 + 1 < w2.heap.size := by omega); (try have : w1.heap.size + 1 + 1 + 1 < w2.heap.size := by omega))
    | ((go_at_call 24; with_reducible refine (H2.out _).mono ?_); rintro _ w3 ⟨rfl, hb3⟩; have hb3s := hb3.size; (try simp only [World.size_alloc, World.size_setCell, World.size_drew, World.heap_drewN] at hb3s); obtain ⟨hb3c, hb3f⟩ := bcell hb3; (try have : w.heap.size < w3.heap.size := by omega); (try have : w.heap.size + 1 < w3.heap.size := by omega); (try have : w.heap.size + 1 + 1 < w3.heap.size := by omega); (try have : w.heap.size + 1 + 1 + 1 < w3.heap.size := by omega); (try have : w1.heap.size < w3.heap.size := by omega); (try have : w1.heap.size + 1 < w3.heap.size := by omega); (try have : w1.heap.size + 1 + 1 < w3.heap.size := by omega); (try have : w1.heap.size + 1 + 1 + 1 < w3.heap.size := by omega); (try have : w2.heap.size < w3.heap.size := by omega); (try have : w2.heap.size + 1 < w3.heap.size := by omega); (try have : w2.heap.size + 1 + 1 < w3.heap.size := by omega); (try have : w2.heap.size + 1 + 1 + 1 < w3.heap.size := by omega))
    | ((go_at_call 25; with_reducible refine (H3.out _).mono ?_); rintro _ w4 ⟨rfl, hb4⟩; have hb4s := hb4.size; (try simp only [World.size_alloc, World.size_setCell, World.size_drew, World.heap_drewN] at hb4s); obtain ⟨hb4c, hb4f⟩ := bcell hb4; (try have : w.heap.size < w4.heap.size := by omega); (try have : w.heap.size + 1 < w4.heap.size := by omega); (try have : w.heap.size + 1 + 1 < w4.heap.size := by omega); (try have : w.heap.size + 1 + 1 + 1 < w4.heap.size := by omega); (try have : w1.heap.size < w4.heap.size := by omega); (try have : w1.heap.size + 1 < w4.heap.size := by omega); (try have : w1.heap.size + 1 + 1 < w4.heap.size := by omega); (try have : w1.heap.size + 1 + 1 + 1 < w4.heap.size := by omega); (try have : w2.heap.size < w4.heap.size := by omega); (try have : w2.heap.size + 1 < w4.heap.size := by omega); (try have : w2.heap.size + 1 + 1 < w4.heap.size := by omega); (try have : w2.heap.size + 1 + 1 + 1 < w4.heap.size := by omega); (try have : w3.heap.size < w4.heap.size := by omega); (try have : w3.heap.size + 1 < w4.heap.size := by omega); (try have : w3.heap.size + 1 + 1 < w4.heap.size := by omega); (try have : w3.heap.size + 1 + 1 + 1 < w4.heap.size := by omega))
    | ((go_at_call 24; with_reducible refine (H5.out _).mono ?_); rintro _ w5 ⟨rfl, hb5⟩; have hb5s := hb5.size; (try simp only [World.size_alloc, World.size_setCell, World.size_drew, World.heap_drewN] at hb5s); obtain ⟨hb5c, hb5f⟩ := bcell hb5; (try have : w.heap.size < w5.heap.size := by omega); (try have : w.heap.size + 1 < w5.heap.size := by omega); (try have : w.heap.size + 1 + 1 < w5.heap.size := by omega); (try have : w.heap.size + 1 + 1 + 1 < w5.heap.size := by omega); (try have : w1.heap.size < w5.heap.size := by omega); (try have : w1.heap.size + 1 < w5.heap.size := by omega); (try have : w1.heap.size + 1 + 1 < w5.heap.size := by omega); (try have : w1.heap.size + 1 + 1 + 1 < w5.heap.size := by omega); (try have : w2.heap.size < w5.heap.size := by omega); (try have : w2.heap.size + 1 < w5.heap.size := by omega); (try have : w2.heap.size + 1 + 1 < w5.heap.size := by omega); (try have : w2.heap.size + 1 + 1 + 1 < w5.heap.size := by omega); (try have : w3.heap.size < w5.heap.size := by omega); (try have : w3.heap.size + 1 < w5.heap.size := by omega); (try have : w3.heap.size + 1 + 1 < w5.heap.size := by omega); (try have : w3.heap.size + 1 + 1 + 1 < w5.heap.size := by omega); (try have : w4.heap.size < w5.heap.size := by omega); (try have : w4.heap.size + 1 < w5.heap.size := by omega); (try have : w4.heap.size + 1 + 1 < w5.heap.size := by omega); (try have : w4.heap.size + 1 + 1 + 1 < w5.heap.size := by omega))
    | ((go_at_call 26; with_reducible refine (H4.out _).mono ?_); rintro _ w6 ⟨rfl, hb6⟩; have hb6s := hb6.size; (try simp only [World.size_alloc, World.size_setCell, World.size_drew, World.heap_drewN] at hb6s); obtain ⟨hb6c, hb6f⟩ := bcell hb6; (try have : w.heap.size < w6.heap.size := by omega); (try have : w.heap.size + 1 < w6.heap.size := by omega); (try have : w.heap.size + 1 + 1 < w6.heap.size := by omega); (try have : w.heap.size + 1 + 1 + 1 < w6.heap.size := by omega); (try have : w1.heap.size < w6.heap.size := by omega); (try have : w1.heap.size + 1 < w6.heap.size := by omega); (try have : w1.heap.size + 1 + 1 < w6.heap.size := by omega); (try have : w1.heap.size + 1 + 1 + 1 < w6.heap.size := by omega); (try have : w2.heap.size < w6.heap.size := by omega); (try have : w2.heap.size + 1 < w6.heap.size := by omega); (try have : w2.heap.size + 1 + 1 < w6.heap.size := by omega); (try have : w2.heap.size + 1 + 1 + 1 < w6.heap.size := by omega); (try have : w3.heap.size < w6.heap.size := by omega); (try have : w3.heap.size + 1 < w6.heap.size := by omega); (try have : w3.heap.size + 1 + 1 < w6.heap.size := by omega); (try have : w3.heap.size + 1 + 1 + 1 < w6.heap.size := by omega); (try have : w4.heap.size < w6.heap.size := by omega); (try have : w4.heap.size + 1 < w6.heap.size := by omega); (try have : w4.heap.size + 1 + 1 < w6.heap.size := by omega); (try have : w4.heap.size + 1 + 1 + 1 < w6.heap.size := by omega); (try have : w5.heap.size < w6.heap.size := by omega); (try have : w5.heap.size + 1 < w6.heap.size := by omega); (try have : w5.heap.size + 1 + 1 < w6.heap.size := by omega); (try have : w5.heap.size + 1 + 1 + 1 < w6.heap.size := by omega)))
  go_ret
  exact ⟨rfl, by (repeat' (first | (with_reducible exact Below.refl _ _) | (with_reducible assumption) | (with_reducible refine Below.drew ?_) | (with_reducible refine below_drewN ?_ _) | ((with_reducible refine Below.alloc ?_ ?_ _); rotate_left; focus (go_size; done)) | ((with_reducible refine Below.setCell ?_ ?_ _); rotate_left; focus (go_size; done)) | ((with_reducible refine Below.trans ?_ (Below.mono (by with_reducible assumption) ?_)); rotate_left; focus (go_size; done))))⟩

set_option maxRecDepth 100000 in
theorem lifted_WideTexts (os : Os) (started : os.Started) (H : Type) (enc : TypeId × Value → H) :
    ReturnsInHanded {} Try.checked os 6 .any (Rows.wideTextsSpec.pre6 enc Try.prog Try.f6 Rows.wideTextsRow.domain false) (Rows.wideTextsSpec.post enc Try.prog Try.f6 false true false false) := by
  refine returnsInHanded_of_change (C := Try.checked) own started (by kernel_rfl) Try.func6
    (ChangeSpec.witness6 (enc := enc) (C := Try.checked) false ⟨#[], #[.string ByteArray.empty, .agg #[.int .u64 0, .int .u64 0]], []⟩ 8 (by kernel_rfl) (by kernel_rfl) (by kernel_rfl) (by kernel_rfl)) ?_
  intro W base args ds gs before hval0 hW hcnd _
  have hval : ∀ (j : Nat) t v, Try.f6.params[j]? = some t → args[j]? = some v → Value.okWide Try.prog W .any base t v := hval0
  have hW' := hW
  obtain ⟨p, q, hA0, hV, rfl, hfz, hnd⟩ := hW
  have hA : DataW.TrodAll enc Try.prog W 0 (fun _ => true) true Try.f6.params.toList args.toList ds p := hA0
  rw [Try.params6] at hA hval
  obtain ⟨v0, vs0, d0, ds0, p0, q0, hargs0, rfl, rfl, h0, r0⟩ := trodAll_cons hA
  obtain ⟨v1, vs1, d1, ds1, p1, q1, hargs1, rfl, rfl, h1, r1⟩ := trodAll_cons r0
  obtain ⟨rfl, rfl, rfl⟩ := trodAll_nil r1
  obtain rfl : args = #[v0, v1] := by cases args; simp_all
  obtain ⟨rfl, rfl⟩ := trodVars_none hV
  have k0 := h0
  have lt0 : ∀ x ∈ p0, x.block < W.heap.size := by obtain ⟨m, hm⟩ := k0; exact DataW.trod_lt m _ _ _ hm
  have k1 := h1
  have lt1 : ∀ x ∈ p1, x.block < W.heap.size := by obtain ⟨m, hm⟩ := k1; exact DataW.trod_lt m _ _ _ hm
  obtain ⟨a0, rfl, rfl, rfl, w0⟩ := open_string Try.underlying9 (hval 0 9 v0 rfl rfl) h0
  obtain ⟨c10, c11, y10, y11, m1, rfl, rfl, rfl, hy10, hy11⟩ := Joins.open_agg2 Try.underlying27 (by kernel_rfl) (by kernel_rfl) (hval 1 27 v1 rfl rfl) h1
  obtain ⟨a10, e10, rfl, w10⟩ := DataW.trod_int Try.underlying22 hy10
  simp at e10; subst e10
  obtain ⟨a11, e11, rfl, w11⟩ := DataW.trod_int Try.underlying22 hy11
  simp at e11; subst e11
  clear hA0 hval0
  refine (walk_WideTexts a0 w0 a10 a11 w10 w11 W).mono fun e W' ⟨he, bel⟩ => ?_
  subst he
  exact ⟨_, rfl, _, _, _, [], _, [], hW', trodAll_mk1 (shut_bool Try.underlying4 _), (trodAll_cons_mk (Below.trod laidOut (by kernel_rfl) (of_decide_eq_true (by kernel_rfl)) k0 bel lt0) (trodAll_cons_mk (Below.trod laidOut (by kernel_rfl) (of_decide_eq_true (by kernel_rfl)) k1 bel lt1) trodAll_mk0)), rfl, bel.frame _, fun h => by cases h⟩

theorem WideTexts_holds : Rows.WideTextsSaid :=
  OpenClaim.holds_of_wide 6 Try.f6 rfl rfl rfl rfl rfl rfl rfl ⟨rfl, rfl, rfl, rfl, rfl⟩ rfl rfl rfl rfl rfl (by kernel_rfl) Try.func6 (by kernel_rfl)
    (of_decide_eq_true (by kernel_rfl)) (by unfold Func.isWrapper; first | (rw [if_pos (by decide +kernel)]; kernel_rfl) | (rw [if_neg (by decide +kernel)]; exact ⟨rfl, rfl⟩))
    (fun os started H enc _ => lifted_WideTexts os started H enc)
#print axioms WideTexts_holds
end Go.Proofs.Ytnjiibeomailhaa
