/- DecTexts: for all texts s and all decimals d, together at most 1048576 letters and values, the program's Parse and Print and the document's answer the same, and what Print tells is read back: the law returns true, and what was handed in reads as it did. The card ties what the row lists of package utf8's tables to the program's text. -/
import Derived.Test.YtogpbcllbbpgbaaDoorCards
import Derived.Test.YtogpbcllbbpgbaaDoorTie
import Derived.Deep.DeepHandedRow
import Derived.LaidMore
import Derived.Lay
import Derived.SevenTiedAt
import Derived.Test.YtogpbcllbbpgbaaDoorM4
set_option linter.unusedSimpArgs false
set_option linter.unusedVariables false
namespace Go.Proofs.YtogpbcllbbpgbaaDoor
open Go.RowKit
open Go.ChangeShapes Go.WideShapes Go.ChangeAt
open Go.ChangeMaps (open_string shut_string)
set_option linter.unusedVariables false

theorem wd_split {x y : Int} (hx : (Lit.int .u64 x).wf = true) (hy : (Lit.int .u64 y).wf = true) : ∃ n, n < 2 ^ 128 ∧ x = wd n 1 ∧ y = wd n 0 := by
  obtain ⟨x0, x1⟩ := wf_word hx
  obtain ⟨y0, y1⟩ := wf_word hy
  obtain ⟨n, hn, _, e1, e2⟩ := wd_make x y x0 x1 y0 y1
  exact ⟨n, hn, e1, e2⟩
theorem insS_len (t : List UInt8) (s : Nat) (h : s ≤ t.length) : (insS t s).length ≤ t.length + 1 := by
  unfold insS
  split
  · simp only [List.length_append, List.length_take, List.length_drop, List.length_cons, List.length_nil]; omega
  · omega
set_option maxHeartbeats 2000000 in
theorem walk_DecTexts (s : ByteArray) (hs : s.size ≤ 1048576) (b : Bool) (x1 x0 sc : Int) (hx : (Lit.int .u64 x1).wf = true) (hy : (Lit.int .u64 x0).wf = true) (w : World) :
    Calls Tryd.prog 3 #[.string s, .agg #[.bool b, .int .u64 x1, .int .u64 x0, .int .i64 sc]] w fun e w' => e = .returned (.bool true) ∧ Below w.heap.size w w' := by
  obtain ⟨c, hc, rfl, rfl⟩ := wd_split hx hy
  obtain ⟨l, rfl⟩ : ∃ l : List UInt8, s = ⟨l.toArray⟩ := ⟨s.data.toList, by simp⟩
  rw [Lib.size_mk] at hs
  have H1 := fun W => docparse_any l (by omega) W
  have H2 := fun W => parse_any l (by omega) W
  unfold DPost at H1 H2
  cases hf : dform b c sc with
  | false => exact texts_walk ⟨l.toArray⟩ ⟨#[]⟩ b _ _ sc _ _ _ _ _ 2 H1 H2 (fun W => docprint_bad b c sc hc hf W) (fun W => print_bad b c sc hc hf W) (fun h => by cases h) w
  | true =>
    obtain ⟨t, rfl, hd⟩ := (dform_iff b c sc).1 hf
    obtain ⟨L, hL, _⟩ := nd_128 hc
    have hp := par_pr hd hL
    have hlen : (prS b c t L).length ≤ 9223372036854775807 := by
      have h1 := padS_length c t L hL.1
      have h2 := hd.2.1
      have h3 := hL.le (by decide) hd.1
      have h5 := insS_len (padS c t L) t (by omega)
      unfold prS
      rw [List.length_append]
      have h4 : (if b = true then ([45] : List UInt8) else []).length ≤ 1 := by split <;> simp
      omega
    have H5 := fun W => parse_any (prS b c t L) hlen W
    unfold DPost at H5
    rw [hp] at H5
    exact texts_walk ⟨l.toArray⟩ ⟨(prS b c t L).toArray⟩ b _ _ _ _ _ _ _ _ 0 H1 H2 (fun W => docprint_ok b c t L hd hL W) (fun W => print_ok b c t L hd hL W) (fun _ W => H5 W) w
set_option maxRecDepth 100000 in
theorem reads_DecTexts (os : Os) {H : Type} (enc : TypeId × Value → H) : ∃ places, DataW.whole enc Tryd.prog ((World.laidAll Tryd.prog os Rows.decTextsUptoRow.laid).forCall (fun _ _ => 0) ⟨#[], #[.string ⟨#[]⟩, .agg #[.bool false, .int .u64 0, .int .u64 0, .int .i64 0]], []⟩).memory Tryd.f3.params.toList Rows.decTextsSpec.vars false #[Value.string ⟨#[]⟩, .agg #[.bool false, .int .u64 0, .int .u64 0, .int .i64 0]].toList 8 = some ([.lit (.string []), .agg [.lit (.bool false), .agg [.lit (.int .u64 0), .lit (.int .u64 0)], .lit (.int .i64 0)]], [], places) :=
  ⟨[], by kernel_rfl⟩
set_option maxRecDepth 100000 in
theorem lifted_DecTexts (os : Os) (started : os.Started) (H : Type) (enc : TypeId × Value → H) (F : Stop.Interp) :
    ReturnsInHanded {} Tryd.checked os 3 .any ((Rows.OpenSpec.upto Rows.decTextsSpec).preRow enc Tryd.prog Tryd.f3 Rows.decTextsUptoRow.domain false Rows.decTextsUptoRow.laid) (((Rows.OpenSpec.upto Rows.decTextsSpec).at F).post enc Tryd.prog Tryd.f3 false true false false) := by
  obtain ⟨places, hx⟩ := reads_DecTexts os enc
  refine returnsInHanded_of_row (C := Tryd.checked) (s := Rows.OpenSpec.upto Rows.decTextsSpec) own started (by kernel_rfl) Tryd.func3
    ⟨World.laidAll Tryd.prog os Rows.decTextsUptoRow.laid, fun _ _ => 0, ⟨#[], #[.string ⟨#[]⟩, .agg #[.bool false, .int .u64 0, .int .u64 0, .int .i64 0]], []⟩, World.laidAll_os _ _ _, World.shaped_of_ZipB (by kernel_rfl) (by kernel_rfl),
      rfl, (Input.okWide_of_okWideB (by kernel_rfl)).2,
      OpenSpec.preRow_of_cond 8 hx (by kernel_rfl) (fun k hk => by cases hk; kernel_rfl) (by kernel_rfl) (laidMet_laidAll _ (by kernel_rfl) (by kernel_rfl)), by
        simp only [Assume.holds]
        exact ⟨by simp, by simp, fun _ => Modest.zero, by simp, by simp⟩⟩ ?_
  intro W base args ds gs before hval0 hW _ hk _ hL _ _
  have hval : ∀ (j : Nat) t v, Tryd.f3.params[j]? = some t → args[j]? = some v → Value.okWide Tryd.prog W .any base t v := hval0
  have hk1 := hk _ rfl
  have hW' := hW
  obtain ⟨p, q, hA0, hV, rfl, hfz, hnd⟩ := hW
  have hA : DataW.TrodAll enc Tryd.prog W 0 (fun _ => true) true Tryd.f3.params.toList args.toList ds p := hA0
  rw [Tryd.params3] at hA hval
  obtain ⟨v0, vs0, d0, ds0, p0, q0, hargs0, rfl, rfl, h0, r0⟩ := trodAll_cons hA
  obtain ⟨v1, vs1, d1, ds1, p1, q1, hargs1, rfl, rfl, h1, r1⟩ := trodAll_cons r0
  obtain ⟨rfl, rfl, rfl⟩ := trodAll_nil r1
  obtain rfl : args = #[v0, v1] := by cases args; simp_all
  obtain ⟨rfl, rfl⟩ := trodVars_none hV
  have k0 := h0
  have lt0 : ∀ x ∈ p0, x.block < W.heap.size := by obtain ⟨m, hm⟩ := k0; exact DataW.trod_lt m _ _ _ hm
  have k1 := h1
  have lt1 : ∀ x ∈ p1, x.block < W.heap.size := by obtain ⟨m, hm⟩ := k1; exact DataW.trod_lt m _ _ _ hm
  obtain ⟨a0, rfl, rfl, rfl, w0⟩ := open_string Tryd.underlying9 (hval 0 9 v0 rfl rfl) h0
  obtain ⟨b1, a1, a2, a3, rfl, w1, w2, w3⟩ := open_dec (hval 1 26 v1 rfl rfl) h1
  have hsz : a0.size ≤ 1048576 := by
    have h := of_decide_eq_true hk1
    simp only [List.cons_append, List.nil_append, Rows.uptoBulkAll, Rows.uptoBulk] at h
    have e : a0.data.toList.length = a0.size := by rw [Array.length_toList]; rfl
    omega
  clear hA0 hval0
  refine (walk_DecTexts a0 hsz b1 a1 a2 a3 w1 w2 W).mono fun e W' ⟨he, bel⟩ => ?_
  subst he
  exact ⟨_, rfl, _, _, _, [], _, [], hW', trodAll_mk1 (shut_bool Tryd.underlying4 _), (trodAll_cons_mk (Below.trod laidOut (by kernel_rfl) (of_decide_eq_true (by kernel_rfl)) k0 bel lt0) (trodAll_cons_mk (Below.trod laidOut (by kernel_rfl) (of_decide_eq_true (by kernel_rfl)) k1 bel lt1) trodAll_mk0)), rfl, bel.frame _, fun h => by cases h⟩
theorem DecTexts_said : Rows.DecTextsUptoSaid :=
  OpenClaim.holds_of_cond 3 Tryd.f3 rfl rfl rfl rfl rfl rfl rfl ⟨rfl, rfl, rfl, rfl, rfl⟩ rfl rfl rfl rfl rfl (by kernel_rfl) Tryd.func3 (by kernel_rfl)
    (of_decide_eq_true (by kernel_rfl)) (by unfold Func.isWrapper; first | (rw [if_pos (by decide +kernel)]; kernel_rfl) | (rw [if_neg (by decide +kernel)]; exact ⟨rfl, rfl⟩))
    (fun os started H enc _ F => by rw [OpenClaim.pre_eq_preRow]; exact lifted_DecTexts os started H enc F)
theorem plain_DecTexts (f : FuncId) (fn : Func) (hf : Tryd.pinned.checked.prog.funcNamed "tariff/tarifflaw02.DecTexts" = some f) (hfn : Tryd.pinned.checked.prog.funcs[f]? = some fn) :
    false = Tryd.pinned.checked.prog.looks [] ∧ ∀ (j : Nat) t, fn.params[j]? = some t → Tryd.pinned.checked.prog.wantsStandIn t = false := by
  obtain rfl : f = 3 := Option.some.inj ((show Tryd.prog.funcNamed "tariff/tarifflaw02.DecTexts" = some 3 by kernel_rfl).symm.trans hf) |>.symm
  obtain rfl : fn = Tryd.f3 := (Option.some.inj (Tryd.func3.symm.trans hfn)).symm
  refine ⟨by kernel_rfl, fun j t ht => ?_⟩
  rw [Tryd.params3] at ht
  have hm : t ∈ [9, 26] := by simpa using Array.mem_of_getElem? ht
  have hall : ([9, 26].all fun u => !Tryd.prog.wantsStandIn u) = true := by kernel_rfl
  exact (show Tryd.prog.wantsStandIn t = false by simpa using List.all_eq_true.1 hall t hm)
theorem DecTexts_holds : Rows.DecTextsUptoCardSaid :=
  Claim7.holds_tied_plain_at .later [] _ _ _ _ DecTexts_said (fun _ h => by cases h) (by kernel_rfl) (fun _ h => by cases h) decTextsUpto_row_tie rfl ⟨rfl, rfl⟩ (by kernel_rfl) rfl plain_DecTexts (by kernel_rfl)
#print axioms DecTexts_holds
end Go.Proofs.YtogpbcllbbpgbaaDoor
