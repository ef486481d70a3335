/- Sweep, the program's: whether all of a box's cells are to be covered. -/
import Derived.Test.YtlpoopmjgobnnaaAr
set_option linter.unusedSimpArgs false
set_option linter.unusedVariables false
namespace Go.Proofs.Ytlpoopmjgobnnaa
open Go.RowKit
attribute [local go_sem] Oper.semAt_some

theorem frB_true {F : List Bool} {ns lo hi : List Nat} (h : ∀ p ∈ witL ns lo hi [0], F.getD p false = true) : frB F ns lo hi = true := List.all_eq_true.2 h
theorem frB_false {F : List Bool} {ns lo hi : List Nat} {p : Nat} (hp : p ∈ witL ns lo hi [0]) (h : F.getD p false = false) : frB F ns lo hi = false := by
  unfold frB
  rw [List.all_eq_false]
  exact ⟨p, hp, by rw [h]; decide⟩
set_option maxRecDepth 100000 in
set_option maxHeartbeats 2000000 in
theorem free_any (ns lo hi : List Nat) (F : List Bool) (v u bv : Value) (n0 : Int) (w : World) (hb : Bx ns lo hi) (hp : 0 < prodL ns) (h4 : prodL ns ≤ 4000) (hnl : ns.length ≤ 1000) (hF : F.length = prodL ns) (h : Lst w v (zs ns)) (h2 : Bls w u F) (h3 : Cxs w bv lo hi) :
    Calls Try.prog 36 #[.agg #[v, .int .i64 n0], u, bv] w fun e w' => e = .returned (.bool (frB F ns lo hi)) ∧ Below w.heap.size w w' := by
  have HN := Lib.hid h
  have HU := Lib.hid h2
  have HC := Lib.hid h3
  have HFL := Lib.hid hF
  clear hF
  obtain ⟨A2, C2, rfl, hm2, -⟩ := h3
  obtain ⟨A1, C1, rfl, hm1, -⟩ := h2
  refine (callsIn_wide (n := 3)).1 ?_
  refine callsIn_of_wp_marks Try.func36 rfl trivial ?_ rfl
  simp only [Try.ntmps36, List.size_toArray, List.length_cons, List.length_nil, Nat.reduceAdd, Nat.reduceSub, Array.replicate_succ, Array.replicate_zero, List.push_toArray, List.append_toArray, List.nil_append, List.cons_append]
  gi_wp2
  refine ⟨trivial, ((callsIn_wide (n := 2)).2 (each_any v A2 lo.length C2 n0 _)).mono ?_⟩
  rintro _ _ ⟨rfl, rfl⟩
  gi_wp2
  obtain ⟨B, hB⟩ : ∃ B, B = w.heap.size := ⟨_, rfl⟩
  obtain ⟨w5, hw5⟩ : ∃ W, W = ((((w.alloc (.cells #[v, .int .i64 n0] 46)).alloc (.cells #[.slice A1 F.length C1] 40)).alloc (.cells #[.bool false] 4)).alloc (.cells #[v, .int .i64 n0] 46)).alloc (.cells #[.slice A2 lo.length C2] 33) := ⟨_, rfl⟩
  have hs5 : w5.heap.size = B + 5 := by rw [hw5, hB]; simp only [World.size_alloc]
  have hb5 : Below B w w5 := by rw [hw5, hB]; (repeat' (first | (with_reducible exact Below.refl _ _) | (with_reducible assumption) | (with_reducible refine Below.drew ?_) | (with_reducible refine below_drewN ?_ _) | ((with_reducible refine Below.alloc ?_ ?_ _); rotate_left; focus (go_size; done)) | ((with_reducible refine Below.setCell ?_ ?_ _); rotate_left; focus (go_size; done)) | ((with_reducible refine Below.trans ?_ (Below.mono (by with_reducible assumption) ?_)); rotate_left; focus (go_size; done))))
  have k1 : Bk w5 (B + 1) 40 [.slice A1 F.length C1] := by
    rw [hw5, hB]
    exact (((Bk.new_ (w := w.alloc (.cells #[v, .int .i64 n0] 46)) (by simp only [World.size_alloc])).alloc _).alloc _).alloc _
  have k2 : Bk w5 (B + 1 + 1) 4 [.bool false] := by
    rw [hw5, hB]
    exact ((Bk.new_ (by simp only [World.size_alloc])).alloc _).alloc _
  have k3 : Bk w5 (B + 1 + 1 + 1) 46 [v, .int .i64 n0] := by
    rw [hw5, hB]
    exact (Bk.new_ (by simp only [World.size_alloc])).alloc _
  have k4 : Bk w5 (B + 1 + 1 + 1 + 1) 33 [.slice A2 lo.length C2] := by
    rw [hw5, hB]
    exact Bk.new_ (by simp only [World.size_alloc])
  rw [← hw5, ← hB]
  have cl := k1.cell 0 rfl
  have HLS := Lib.hid (LstS.of HN.out (s := B + 1 + 1) (by rw [← hB]; omega))
  have HCS := Lib.hid (CxsS.of HC.out (s := B + 1 + 1) (by rw [← hB]; omega))
  have HB5 := Lib.hid hb5
  have HS5 := Lib.hid hs5
  have hbw : Below w.heap.size w w5 := by rw [← hB]; exact hb5
  have HBW := Lib.hid hbw
  have HBE := Lib.hid hB
  clear hw5 hB
  refine wpIn_rangeB rfl (by omega) (gf := 37) (lb := #[.pointer (some ⟨B + 1 + 1 + 1 + 1, 0, none⟩), .pointer (some ⟨B + 1 + 1 + 1, 0, none⟩)]) rfl trivial (enters_of Try.func37 (by kernel_rfl) rfl)
    (each1_any 2 (B + 1 + 1) (B + 1 + 1 + 1) (B + 1 + 1 + 1 + 1) ns lo hi v (.slice A2 lo.length C2) n0 w5 (by omega) (by omega) (by omega) (by omega) hb hp h4 hnl k3 k4 (HLS.out.below hbw) (HCS.out.below hbw))
    KpS.trans (fun W l o o' _ h2 h3 => KpS.put W l o o' h2 h3) (Below.refl _ _) (fun _ => rfl)
    (fun pre W => Below w5.heap.size w5 W ∧ ∀ p ∈ pre, F.getD p false = true)
    (fun c pre W => c = .ret ∧ (∃ p ∈ pre, F.getD p false = false) ∧ Below B w W ∧ Bk W (B + 1 + 1) 4 [.bool false])
    (fun s A C h hb => ⟨h.1.trans hb, h.2⟩)
    (fun c s A C h hb => ⟨h.1, h.2.1, h.2.2.1.trans (hb.mono (by omega)), h.2.2.2.below hb (by omega)⟩)
    ⟨Below.refl _ _, fun p hp => absurd hp (List.not_mem_nil)⟩
    (fun p => { tmps := #[.agg #[v, .int .i64 n0], .slice A1 F.length C1, .slice A2 lo.length C2, .pointer (some ⟨B, 0, none⟩), .pointer (some ⟨B + 1, 0, none⟩), undef, .pointer (some ⟨B + 1 + 1, 0, none⟩), .int .i64 p, .agg #[v, .int .i64 n0], .slice A2 lo.length C2, .func (.func 37) #[] #[.pointer (some ⟨B + 1 + 1 + 1 + 1, 0, none⟩), .pointer (some ⟨B + 1 + 1 + 1, 0, none⟩)], .int .i64 p, undef, undef, undef, undef, undef], defers := [] }) ?assign ?body ?done ?stop
  case assign =>
    intro l x W K hK
    gi_wp2
    exact hK
  case body =>
    rintro l pre x W ⟨hB, hpre⟩ hlt
    have hx : x ∈ witL ns lo hi [0] := hlt.subset (List.mem_append_right _ (List.mem_singleton_self x))
    have hxF : x < F.length := by rw [HFL.out]; exact hb.lt hx
    obtain ⟨b1, p1, rfl, a1⟩ := ((HU.out.below hbw).below hB).at hxF
    have k1' := (k1.below hB (by omega)).cell 0 rfl
    have k2' := k2.below hB (by omega)
    have k20 := k2'.cell 0 rfl
    have k2f := k2'.frozen 0
    have hbB : Below B w W := by rw [HBE.out]; exact hbw.trans (hB.mono hbw.size)
    have HBB := Lib.hid hbB
    have HPR := Lib.hid hpre
    have HHB := Lib.hid hB
    have HK2 := Lib.hid k2'
    have HX := Lib.hid hxF
    clear hbB hpre hB hlt k2' hb hp h4 hnl h k1 k2 k3 k4 cl hb5 hs5 hbw
    cases hf : F.getD x false with
    | false =>
      rw [hf] at a1
      have HF := Lib.hid hf
      clear hf
      gi_wp2
      exact ⟨KeepsOthers.setCell _ _ _, rfl, ⟨x, List.mem_append_right _ (List.mem_singleton_self x), HF.out⟩, HBB.out.setCell (p := ⟨B + 1 + 1, 0, none⟩) (by show B ≤ B + 1 + 1; omega) _, HK2.out.set_ 0 (.bool false)⟩
    | true =>
      rw [hf] at a1
      have HF := Lib.hid hf
      clear hf
      gi_wp2
      exact ⟨KeepsOthers.refl _, KpS.refl _ _, HHB.out, fun p hp => by
        rcases List.mem_append.1 hp with h' | h'
        · exact HPR.out p h'
        · rw [List.mem_singleton.1 h']; exact HF.out⟩
  case done =>
    rintro D ys W hD rfl ⟨hB, hpre⟩ hK
    have k2' := k2.below hB (by omega)
    have k20 := k2'.cell 0 rfl
    have k2f := k2'.frozen 0
    have hbB : Below B w W := by rw [HBE.out]; exact hbw.trans (hB.mono hbw.size)
    have HBB := Lib.hid hbB
    have HFR := Lib.hid (frB_true hpre)
    have HK2 := Lib.hid k2'
    have HKD := Lib.hid hK
    have hDB : B + 1 + 1 < D := by omega
    clear hbB hpre hB k2' hb hp h4 hnl h k1 k2 k3 k4 cl hb5 hs5 hbw hK
    gi_wp2
    refine leaves_marks (B := B + 5) (by simp) [D] _ (by simp) ?_ ?_ ?_
    · intro D' hD'
      rw [List.mem_singleton.1 hD']
      exact ⟨(Below.heap_setCell W ⟨B + 1 + 1, 0, none⟩ _ D (show D ≠ B + 1 + 1 by omega)).trans HKD.out, by rw [← HS5.out]; exact hD⟩
    · have := HBB.out.size
      have h9 := (Array.getElem?_eq_some_iff.1 HKD.out).1
      have := HS5.out
      rw [World.size_setCell]
      omega
    · intro W' hW'
      have kr := (HK2.out.set_ 0 (.bool true)).below hW' (by omega)
      have k9 : W'.cell? ⟨B + 1 + 1, 0, none⟩ = some (.bool true) := kr.cell 0 rfl
      exact ⟨.bool true, by simp [results, Try.results36, go_sem, *]; try rfl, by rw [HFR.out], by rw [← HBE.out]; exact (HBB.out.setCell (p := ⟨B + 1 + 1, 0, none⟩) (by show B ≤ B + 1 + 1; omega) _).trans (hW'.mono (by omega))⟩
  case stop =>
    rintro D c pre W hD hpx ⟨rfl, ⟨p, hp, hpf⟩, hB, hk⟩ hK
    have hfr := frB_false (hpx.subset hp) hpf
    have hDB : B + 1 + 1 < D := by omega
    have HBB := Lib.hid hB
    have HFR := Lib.hid hfr
    have HK2 := Lib.hid hk
    have HKD := Lib.hid hK
    clear hfr hk hB hb h4 hnl h k1 k2 k3 k4 cl hb5 hs5 hbw hK hpx
    gi_wp2
    refine leaves_marks (B := B + 5) (by simp) [D] _ (by simp) ?_ ?_ ?_
    · intro D' hD'
      rw [List.mem_singleton.1 hD']
      exact ⟨HKD.out, by rw [← HS5.out]; exact hD⟩
    · have h9 := (Array.getElem?_eq_some_iff.1 HKD.out).1
      have := HS5.out
      omega
    · intro W' hW'
      have kr := HK2.out.below hW' (by omega)
      have k9 : W'.cell? ⟨B + 1 + 1, 0, none⟩ = some (.bool false) := kr.cell 0 rfl
      exact ⟨.bool false, by simp [results, Try.results36, go_sem, *]; try rfl, by rw [HFR.out], by rw [← HBE.out]; exact HBB.out.trans (hW'.mono (by omega))⟩
end Go.Proofs.Ytlpoopmjgobnnaa
