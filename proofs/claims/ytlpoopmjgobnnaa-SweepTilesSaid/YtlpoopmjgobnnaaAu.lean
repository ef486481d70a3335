/- Sweep, the program's: a box that grows. -/
import Derived.Test.YtlpoopmjgobnnaaAt
set_option linter.unusedSimpArgs false
set_option linter.unusedVariables false
namespace Go.Proofs.Ytlpoopmjgobnnaa
open Go.RowKit

@[local go_sem] theorem run_store_complex {P : Program} {w : World} {ad : Addr} {q : Mode} (k : FloatKind) (a b : Nat) : (store ad (.complex k a b) q).run P w = stored P w ad (.complex k a b) q := run_store P w ad _ q rfl
/-- make([]T, 0, n): room alone -/
theorem wpList_room {w : World} {ops : Array Oper} {rest : List Oper} {o : Oper} {a : Act} {Q : Exit → Act → World → Prop} (hg : o.guard = none) (l c : Operand) (t e : TypeId) (hop : o.op = Op.makeSlice t l c)
    (z : Value) (hz : z.cells = #[z]) (bytes : Nat) (ht : Try.prog.underlying t = some (.slice e)) (hi : (Try.prog.info? e).map (fun i => (i.zero, i.size, i.bytes)) = some (some z, 1, bytes)) (n : Nat)
    (hl : a.eval l = .int .i64 0) (hc : a.eval c = .int .i64 n) (b2 : bytes * n ≤ 281474976710656) (b3 : n ≤ maxLen)
    (h : wpList Try.prog ops Q rest (a.put o.dst (.slice (some ⟨w.heap.size, 0, none⟩) 0 n)) (w.alloc (.cells (madeCells #[z] n) e))) :
    wpList Try.prog ops Q (o :: rest) a w := by
  obtain ⟨i0, hi0, hz0, hz1, hz2⟩ := info_parts hi
  refine wpList_plain hg fun K hK => ?_
  have hm : (n : Int) ≤ 9223372036854775807 := by unfold maxLen at b3; omega
  have hbi : (i0.bytes : Int) * (n : Int) ≤ 281474976710656 := by
    have h9 : ((bytes * n : Nat) : Int) ≤ 281474976710656 := by omega
    rw [hz2]
    rwa [Int.natCast_mul] at h9
  have hr := run_make (P := Try.prog) w t e i0 z ht hi0 hz0 .i64 .i64 0 n (Int.le_refl _) (by omega) hbi hm
  rw [hz, hz1] at hr
  simp only [Int.toNat_natCast, Int.toNat_zero, Nat.mul_one] at hr
  unfold Oper.wp
  simp [execOp, hop, hl, hc, hr, Result.andThen]
  exact hK _ _ h
theorem ob_room (w : World) (t : TypeId) (n : Nat) (z : Value) (hn : n ≤ maxLen) : (w.alloc (.cells (madeCells #[z] n) t)).ownsRow 0 t 1 (.slice (some ⟨w.heap.size, 0, none⟩) 0 n) 0 [] :=
  (Ro.of_block (o := fun _ => 1) (l := 1) (n := 0) (k := 1) (cs := []) (cur := (madeCells #[z] n).toList) (cap := n) ⟨Bk.new w t (madeCells #[z] n).toList, rfl⟩ (Nat.zero_le _) hn (by rw [Array.length_toList, size_madeCells, Nat.mul_one]) (by simp)).1
theorem KpS.grown {s : Nat} {w w' : World} (h : w.grownBy w' (some s)) : KpS s w w' := ⟨h.size, fun k o hk ho _ => (h.block k (Array.getElem?_eq_some_iff.1 ho).1 (fun e => hk (by cases e; rfl))).trans ho⟩
theorem own_bk {w : World} {t : TypeId} {g n : Nat} {cs : List Value} (h : w.ownsRow 0 t 1 (.slice (some ⟨g, 0, none⟩) n n) n cs) : Bk w g t cs := by
  rcases h.2 with ⟨h', _⟩ | ⟨g', cap', cur, h', hb, hg, hnc, hcm, hcs, htake⟩
  · simp at h'
  · simp only [Value.slice.injEq, Option.some.injEq, Addr.mk.injEq, and_true, true_and] at h'
    obtain ⟨rfl, rfl⟩ := h'
    rw [Nat.mul_one] at hcs
    rw [Nat.mul_one, List.take_of_length_le (by rw [Array.length_toList]; omega)] at htake
    unfold Bk
    rw [hg, ← htake]
theorem bk_cxs {w : World} {g d : Nat} {t : TypeId} {lo hi : List Nat} (h : Bk w g t (cxs lo hi d)) (hl : lo.length = d) (hd : d ≤ maxLen) : Cxs w (.slice (some ⟨g, 0, none⟩) d d) lo hi :=
  ⟨some ⟨g, 0, none⟩, d, by rw [hl], by omega, fun k hk => ⟨g, 0, rfl, by rw [Nat.zero_add]; exact h.cell k (cxs_get (by omega))⟩⟩
theorem fl_one : fl 1 = 4607182418800017408 := by decide
theorem run_up (y : Nat) (hy : y < 100000) (t : TypeId) (w : World) : (binOp .add t (.float .f64 (fl y)) (.float .f64 4607182418800017408)).run Try.prog w = .ok (.float .f64 (fl (y + 1))) w :=
  run_float_arith w .add t .f64 _ _ _ (by rw [← fl_one]; exact fl_add y 1 (by omega) (by omega) (by omega))
theorem run_upi (x y : Nat) (hx : x < 100000) (hy : y < 100000) (t : TypeId) (w : World) : (binOp .add t (.complex .f64 (fl x) (fl y)) (.complex .f64 0 4607182418800017408)).run Try.prog w = .ok (.complex .f64 (fl x) (fl (y + 1))) w :=
  run_complex_sum w .add (.inl rfl) t .f64 _ _ _ _ _ _ (by
    have h1 := fl_add x 0 (by omega) (by omega) (by omega)
    have h2 := fl_add y 1 (by omega) (by omega) (by omega)
    rw [fl_one] at h2
    rw [fl_zero, Nat.add_zero] at h1
    unfold cSumBits
    rw [h1, h2]
    rfl)
theorem row_cxs {w : World} {g d C : Nat} {t : TypeId} {lo hi : List Nat} {cur : List Value} (h : Bk w g t cur) (hl : lo.length = d) (hd : d ≤ maxLen) (ht : cur.take (d * 1) = cxs lo hi d) : Cxs w (.slice (some ⟨g, 0, none⟩) d C) lo hi :=
  ⟨some ⟨g, 0, none⟩, C, by rw [hl], by omega, fun k hk => ⟨g, 0, rfl, by
    rw [Nat.zero_add]
    refine h.cell k ?_
    rw [← List.getElem?_take_of_lt (show k < d * 1 by omega), ht, cxs_get (by omega)]⟩⟩
theorem set_getD_self {l : List Nat} {m x : Nat} (h : x = l.getD m 0) (hm : m < l.length) : l.set m x = l := by
  subst h
  rw [List.getD_eq_getElem?_getD, List.getElem?_eq_getElem hm]
  exact List.set_getElem_self hm
def GrowPost (F : List Bool) (ns : List Nat) (i : Nat) (w : World) (e : Ending) (w' : World) : Prop := ∃ r, e = .returned r ∧ Below w.heap.size w w' ∧ Ro w' (ob w.heap.size) 1 37 1 r ns.length (cxs (boxL F ns i).1 (boxL F ns i).2 ns.length)
set_option maxRecDepth 100000 in
set_option maxHeartbeats 3000000 in
theorem grow_any (ns : List Nat) (F : List Bool) (i : Nat) (v u : Value) (n0 : Int) (w : World) (hp : 0 < prodL ns) (h4 : prodL ns ≤ 4000) (hnl : ns.length ≤ 1000) (hF : F.length = prodL ns) (hi : i < 4000) (h : Lst w v (zs ns)) (h2 : Bls w u F) : Calls Try.prog 27 #[.agg #[v, .int .i64 n0], u, .int .i64 i] w (GrowPost F ns i w) := by
  have HN := Lib.hid h
  have HU := Lib.hid h2
  have H4 := Lib.hid (And.intro hp (And.intro h4 hF))
  obtain ⟨A, C, rfl, ha, -⟩ := h
  obtain ⟨A1, C1, rfl, hm1, -⟩ := h2
  rw [zs_len] at ha HN ⊢
  unfold GrowPost
  clear hp h4 hF
  go_enter Try.func27, Try.ntmps27
  go_upto_region 2 with (at_make; refine wpList_room rfl _ _ 33 37 rfl (.complex .f64 0 0) rfl 16 Try.underlying33 info_cx ns.length rfl rfl (by omega) (by unfold maxLen; omega) ?_)
  obtain ⟨B, hB⟩ : ∃ B, B = w.heap.size := ⟨_, rfl⟩
  obtain ⟨w1, hw1⟩ : ∃ W, W = (w.alloc (.cells #[.slice A ns.length C, .int .i64 n0] 46)).alloc (.cells (madeCells #[.complex .f64 0 0] ns.length) 37) := ⟨_, rfl⟩
  have hs1 : w1.heap.size = B + 2 := by rw [hw1, hB]; simp only [World.size_alloc]
  have hb1 : Below B w w1 := by rw [hw1, hB]; (repeat' (first | (with_reducible exact Below.refl _ _) | (with_reducible assumption) | (with_reducible refine Below.drew ?_) | (with_reducible refine below_drewN ?_ _) | ((with_reducible refine Below.alloc ?_ ?_ _); rotate_left; focus (go_size; done)) | ((with_reducible refine Below.setCell ?_ ?_ _); rotate_left; focus (go_size; done)) | ((with_reducible refine Below.trans ?_ (Below.mono (by with_reducible assumption) ?_)); rotate_left; focus (go_size; done))))
  have k1 : Bk w1 B 46 [.slice A ns.length C, .int .i64 n0] := by
    rw [hw1, hB]
    exact (Bk.new_ rfl).alloc _
  have r1 : w1.ownsRow 0 37 1 (.slice (some ⟨B + 1, 0, none⟩) 0 ns.length) 0 [] := by
    rw [hw1, hB]
    have := ob_room (w.alloc (.cells #[.slice A ns.length C, .int .i64 n0] 46)) 37 ns.length (.complex .f64 0 0) (by unfold maxLen; omega)
    rw [World.size_alloc] at this
    exact this
  rw [← hw1, ← hB]
  have HBE := Lib.hid hB
  have HS1 := Lib.hid hs1
  have HB1 := Lib.hid hb1
  have HK1 := Lib.hid k1
  have HR1 := Lib.hid r1
  clear hw1 hB r1
  have c0 := k1.cell 0 rfl
  have c1 := k1.cell 1 rfl
  have HCL := Lib.hid (cell_any ns i (.slice A ns.length C) n0 w1 (prod_pos_iff.1 H4.out.1) hnl (by omega) (HN.out.below (by rw [← HBE.out]; exact hb1)))
  unfold CellPost at HCL
  clear k1 hb1 hs1
  go_upto_region 3 with (go_at_call 34; (with_reducible refine HCL.out.mono ?_); rintro _ w2 ⟨g1, rfl, hg1, hk1, hb2⟩)
  obtain ⟨lo, hlo⟩ : ∃ lo, lo = dgL ns i := ⟨_, rfl⟩
  have hlen : lo.length = ns.length := by rw [hlo, dg_len]
  have hlt0 : Lts lo ns := by rw [hlo]; exact dg_lt i (prod_pos_iff.1 H4.out.1)
  have HLT := Lib.hid hlt0
  have HLO := Lib.hid hlo
  have HLEN := Lib.hid hlen
  rw [← hlo] at hk1
  have hb12 : Below B w w2 := HB1.out.trans (hb2.mono (by have := HS1.out; omega))
  have hb2' : Below (B + 2) w1 w2 := by rw [← HS1.out]; exact hb2
  have HG1 : Hid (B + 2 ≤ g1) := Lib.hid (by rw [← HS1.out]; exact hg1)
  have HKC := Lib.hid hk1
  have HB2 := Lib.hid hb12
  have HGR2' := Lib.hid (HK1.out.below hb2' (by omega))
  have HRO1 : Ro w1 (ob (B + 1)) 1 37 1 (.slice (some ⟨B + 1, 0, none⟩) 0 ns.length) 0 [] := ⟨HR1.out, fun g hg => by cases hg; exact ob_up (Nat.le_refl _)⟩
  have HRO2 : Hid (w2.ownsRow 0 37 1 (.slice (some ⟨B + 1, 0, none⟩) 0 ns.length) 0 []) := Lib.hid (ob_kept HRO1 hb2).1
  clear HRO1
  have HNB : Hid (∀ W, Below B w W → Lst W (.slice A ns.length C) (zs ns)) := Lib.hid (fun W hW => HN.out.below (by rw [← HBE.out]; exact hW))
  obtain ⟨i0, hi0, hz0, hz1, hz2⟩ := info_parts info_cx
  have HI0 := Lib.hid (And.intro hi0 (And.intro hz0 (And.intro hz1 hz2)))
  clear hlo hlen hk1 hb12 hb2' hg1 hb2 c0 c1 hi0 hz0 hz1 hz2 hlt0
  go_loopg [7, 20] ns.length (fun k bx ix wr => ∃ r : Nat, k + r = ns.length ∧ bx = .slice (some ⟨B + 1, 0, none⟩) r ns.length ∧ ix = .int .i64 r ∧ Hid (wr.ownsRow 0 37 1 (.slice (some ⟨B + 1, 0, none⟩) r ns.length) r (cxs lo (lo.map (· + 1)) r)) ∧ Hid (KpS (B + 1) w2 wr) ∧ Hid (Below B w wr))
  case atStart => exact ⟨0, by omega, rfl, rfl, HRO2, Lib.hid (KpS.refl _ _), HB2⟩
  case round =>
    obtain ⟨r, hk, rfl, rfl, HRO, HKP, HBW⟩ := hrel
    have HK := Lib.hid hk
    have hrn : r ≤ ns.length := by omega
    clear hk HRO2
    by_cases hlt : r < ns.length
    · have hcell := (HKP.out.bk (show g1 ≠ B + 1 by have := HG1.out; omega) HKC.out).cell r (ints_get (by rw [HLEN.out]; exact hlt))
      have hcs := cxs_succ lo (lo.map (· + 1)) r
      have hup : (lo.map (· + 1)).getD r 0 = lo.getD r 0 + 1 := by
        rw [List.getD_eq_getElem?_getD, List.getElem?_map, List.getElem?_eq_getElem (by rw [HLEN.out]; exact hlt), List.getD_eq_getElem?_getD, List.getElem?_eq_getElem (by rw [HLEN.out]; exact hlt)]
        rfl
      rw [hup] at hcs
      have hbd : lo.getD r 0 ≤ 4000 := by
        have h6 := (lts_iff.1 HLT.out).2 r (by rw [HLEN.out]; exact hlt)
        have h7 := prod_ge (getD_mem hlt) H4.out.1
        have := H4.out.2.1
        omega
      obtain ⟨x, hx⟩ : ∃ x, x = lo.getD r 0 := ⟨_, rfl⟩
      rw [← hx] at hcell hcs hbd
      have e1 := fl_of_int x (by omega)
      have e2 := fl_of_int (x + 1) (by omega)
      rw [show (((x + 1 : Nat)) : Int) = (x : Int) + 1 by omega] at e2
      have HCS := Lib.hid hcs
      clear hx hcs hup
      go_wp2_with (at_builtin; refine wpList_append_fits _ rfl _ _ 33 rfl 0 37 i0 1 Try.underlying33 HI0.out.1 HI0.out.2.2.1 (B + 1) r ns.length (cxs lo (lo.map (· + 1)) r) rfl (HRO.out.alloc _) ⟨wr.heap.size, 0, none⟩ 1 1 [cx x (x + 1)] rfl rfl (news_cx _ _ _) (fun u hu => by rw [List.mem_singleton.1 hu]; rfl) (by omega) ?_; intro w3 hr3 hg3)
      rw [← HCS.out] at hr3
      have HR3 := Lib.hid hr3
      have hbA : Below B w (wr.alloc (.cells #[cx x (x + 1)] 37)) := HBW.out.alloc (by rw [HBE.out]; exact HBW.out.size) _
      have HK3 : Hid (KpS (B + 1) w2 w3) := Lib.hid (HKP.out.trans ((KpS.below ((Below.refl _ _).alloc (Nat.le_refl _) _)).trans (KpS.grown hg3)))
      have HB3 : Hid (Below B w w3) := Lib.hid (hbA.grown hg3 (by rw [HBE.out]; exact hbA.size) (fun k e => by cases e; exact Nat.le_succ _))
      clear hr3 hg3 hbA
      go_wp2_with fail
      go_roundg (gk - 1)
      case measure => have := HK.out; omega
      case rel => exact ⟨r + 1, by have := HK.out; omega, rfl, by go_num, HR3, HK3, HB3⟩
    · have hrd : r = ns.length := by omega
      subst hrd
      have hbk := own_bk HRO.out
      have hbx : Bx ns lo (lo.map (· + 1)) := lts_succ HLT.out
      obtain ⟨hiF, hhF⟩ : ∃ h, h = grA F ns lo ns.length (lo.map (· + 1)) := ⟨_, rfl⟩
      have HHF := Lib.hid hhF
      have HBX := Lib.hid hbx
      have HBK := Lib.hid hbk
      clear hhF hbx hbk HRO hlt
      obtain ⟨w4, hw4⟩ : ∃ x, x = wr := ⟨_, rfl⟩
      subst hw4
      go_wp2_with fail
      go_loopg [10] ns.length (fun k x wr => ∃ (m : Nat) (hi : List Nat), k = m ∧ m ≤ ns.length ∧ x = .int .i64 ((m : Int) - 1) ∧ Hid (Bx ns lo hi) ∧ Hid (grA F ns lo m hi = hiF) ∧ Hid (Bk wr (B + 1) 37 (cxs lo hi ns.length)) ∧ Hid (KpS (B + 1) w2 wr) ∧ Hid (Below B w wr))
      case atStart => exact ⟨ns.length, _, rfl, Nat.le_refl _, rfl, HBX, Lib.hid HHF.out.symm, HBK, HKP, HBW⟩
      case round =>
        obtain ⟨m, hi, hk, hmn, rfl, HBXm, HGR, HBKm, HKPm, HBWm⟩ := hrel
        have HKm := Lib.hid hk
        clear hk HBX HBK HKP HBW
        cases m with
        | zero =>
          have hhi : hi = hiF := HGR.out
          have hbox : boxL F ns i = (lo, hi) := by
            unfold boxL
            rw [← HLO.out, ← HHF.out, hhi]
          have hro : Ro wr (ob w.heap.size) 1 37 1 (.slice (some ⟨B + 1, 0, none⟩) ns.length ns.length) ns.length (cxs lo hi ns.length) :=
            Ro.of_block ⟨HBKm.out, ob_up (by rw [← HBE.out]; exact Nat.le_succ _)⟩ (Nat.le_refl _) ha (by rw [cxs_len, Nat.mul_one]) (by rw [Nat.mul_one, List.take_of_length_le (by rw [cxs_len]; exact Nat.le_refl _)])
          have HRO := Lib.hid hro
          have HBOX := Lib.hid hbox
          clear hhi hbox hro
          go_wp2_with fail
          refine bodyPost_ret (by simp [results, Try.results27, go_sem, *]; try rfl) rfl ?_
          exact ⟨_, rfl, by rw [← HBE.out]; exact HBWm.out, by rw [HBOX.out]; exact HRO.out⟩
        | succ m =>
          rw [show ((m + 1 : Nat) : Int) - 1 = (m : Int) from by omega]
          obtain ⟨hiK, hhK⟩ : ∃ h, h = grK F ns lo m (ns.getD m 0 - hi.getD m 0) hi := ⟨_, rfl⟩
          have HGR2 : Hid (grA F ns lo m hiK = hiF) := Lib.hid (by rw [hhK]; exact HGR.out)
          have HHK := Lib.hid hhK
          have hmd : m < ns.length := hmn
          clear hhK HGR hmn
          have hL0 : Hid (hi.getD m 0 ≤ ns.getD m 0) := Lib.hid ((les_iff.1 HBXm.out.2).2 m (by have := HBXm.out.lens.2; omega))
          go_wp2_with fail
          go_loopg [11] (ns.getD m 0 - hi.getD m 0) (fun k x wr => ∃ (hj : List Nat), k = ns.getD m 0 - hj.getD m 0 ∧ Hid (Bx ns lo hj) ∧ Hid (grK F ns lo m k hj = hiK) ∧ Hid (Bk wr (B + 1) 37 (cxs lo hj ns.length)) ∧ Hid (KpS (B + 1) w2 wr) ∧ Hid (Below B w wr))
          case atStart => exact ⟨hi, rfl, HBXm, Lib.hid HHK.out.symm, HBKm, HKPm, HBWm⟩
          case round =>
            obtain ⟨hj, hk, HBXj, HGRj, HBKj, HKPj, HBWj⟩ := hrel
            have HKj := Lib.hid hk
            clear hk
            have hjl : hj.length = ns.length := HBXj.out.lens.2
            have hle := (les_iff.1 HBXj.out.2).2 m (by omega)
            have hb3 : lo.getD m 0 ≤ 4000 ∧ hj.getD m 0 ≤ 4000 ∧ ns.getD m 0 ≤ 4000 := by
              have h6 := (lts_iff.1 HLT.out).2 m (by rw [HLEN.out]; exact hmd)
              have h7 := prod_ge (getD_mem hmd) H4.out.1
              have := H4.out.2.1
              omega
            have cbx := HBKj.out.cell m (cxs_get hmd)
            have fbx := HBKj.out.frozen m
            have cg := (HKPj.out.bk (show B ≠ B + 1 by omega) HGR2'.out).cell 0 rfl
            obtain ⟨b1, p1, rfl, a1⟩ := (HNB.out wr HBWj.out).at (c := m) (by rw [zs_len]; exact hmd)
            rw [zs_get] at a1
            obtain ⟨x, hx⟩ : ∃ x, x = lo.getD m 0 := ⟨_, rfl⟩
            obtain ⟨y, hy⟩ : ∃ y, y = hj.getD m 0 := ⟨_, rfl⟩
            obtain ⟨z, hz⟩ : ∃ z, z = ns.getD m 0 := ⟨_, rfl⟩
            rw [← hx, ← hy] at cbx
            rw [← hz] at a1
            rw [← hx, ← hy, ← hz] at hb3
            rw [← hy, ← hz] at hle
            have HXYZ := Lib.hid (And.intro hx (And.intro hy hz))
            have e1 := fl_of_int z (by omega)
            unfold cx at cbx
            clear hx hy hz
            go_wp2_with fail
            refine wp_region_held_drew (S := fun w' => w'.cell? ⟨B + 1, m, none⟩ = some (.complex .f64 (fl x) (fl y)) ∧ w'.cell? ⟨B, 0, none⟩ = some (.slice (some ⟨b1, p1, none⟩) ns.length C) ∧ w'.cell? ⟨b1, p1 + m, none⟩ = some (.int .i64 (z : Int))) (by kernel_rfl) ⟨cbx, cg, a1⟩ (fun hHeld => ?_)
            refine wpAnyH_take (i := 0) (v := ?_) rfl (by kernel_rfl) (by kernel_rfl) (by kernel_rfl) (fun _ _ _ h => h) (Or.inl ⟨by rfl, ?_⟩) (by assumption) ?_
            rotate_left
            (focus (intro w hSw; (try dsimp only at hSw); go_simp; (try with_reducible rfl)))
            (try simp only [Act.put, List.getElem_toArray, List.getElem_cons_zero, List.getElem_cons_succ, List.setIfInBounds_toArray, List.set_cons_zero, List.set_cons_succ])
            refine wpAnyH_take (i := 1) (v := ?_) rfl (by kernel_rfl) (by kernel_rfl) (by kernel_rfl) (fun _ _ _ h => h) (Or.inl ⟨by rfl, ?_⟩) (by assumption) ?_
            rotate_left
            (focus (intro w hSw; (try dsimp only at hSw); go_simp; (try with_reducible rfl)))
            (try simp only [Act.put, List.getElem_toArray, List.getElem_cons_zero, List.getElem_cons_succ, List.setIfInBounds_toArray, List.set_cons_zero, List.set_cons_succ])
            refine wpAnyH_take (i := 2) (v := ?_) rfl (by kernel_rfl) (by kernel_rfl) (by kernel_rfl) (fun _ _ _ h => h) (Or.inl ⟨by rfl, ?_⟩) (by assumption) ?_
            rotate_left
            (focus (intro w hSw; (try dsimp only at hSw); go_simp; (try with_reducible rfl)))
            (try simp only [Act.put, List.getElem_toArray, List.getElem_cons_zero, List.getElem_cons_succ, List.setIfInBounds_toArray, List.set_cons_zero, List.set_cons_succ])
            refine wpAnyH_take (i := 3) (v := ?_) rfl (by kernel_rfl) (by kernel_rfl) (by kernel_rfl) (fun _ _ _ h => h) (Or.inl ⟨by rfl, ?_⟩) (by assumption) ?_
            rotate_left
            (focus (intro w hSw; (try dsimp only at hSw); go_simp; (try with_reducible rfl)))
            (try simp only [Act.put, List.getElem_toArray, List.getElem_cons_zero, List.getElem_cons_succ, List.setIfInBounds_toArray, List.set_cons_zero, List.set_cons_succ])
            refine wpAnyH_take (i := 4) (v := ?_) rfl (by kernel_rfl) (by kernel_rfl) (by kernel_rfl) (fun _ _ _ h => h) (Or.inl ⟨by rfl, ?_⟩) (by assumption) ?_
            rotate_left
            (focus (intro w hSw; (try dsimp only at hSw); go_simp; (try with_reducible rfl)))
            (try simp only [Act.put, List.getElem_toArray, List.getElem_cons_zero, List.getElem_cons_succ, List.setIfInBounds_toArray, List.set_cons_zero, List.set_cons_succ])
            refine wpAnyH_take (i := 5) (v := ?_) rfl (by kernel_rfl) (by kernel_rfl) (by kernel_rfl) (fun _ _ _ h => h) (Or.inl ⟨by rfl, ?_⟩) (by assumption) ?_
            rotate_left
            (focus (intro w hSw; (try dsimp only at hSw); go_simp; (try with_reducible rfl)))
            (try simp only [Act.put, List.getElem_toArray, List.getElem_cons_zero, List.getElem_cons_succ, List.setIfInBounds_toArray, List.set_cons_zero, List.set_cons_succ])
            refine wpAnyH_take (i := 6) (v := ?_) rfl (by kernel_rfl) (by kernel_rfl) (by kernel_rfl) (fun _ _ _ h => h) (Or.inl ⟨by rfl, ?_⟩) (by assumption) ?_
            rotate_left
            (focus (intro w hSw; (try dsimp only at hSw); go_simp; (try with_reducible rfl)))
            (try simp only [Act.put, List.getElem_toArray, List.getElem_cons_zero, List.getElem_cons_succ, List.setIfInBounds_toArray, List.set_cons_zero, List.set_cons_succ])
            refine wpAnyH_take (i := 7) (v := ?_) rfl (by kernel_rfl) (by kernel_rfl) (by kernel_rfl) (fun _ _ _ h => h) (Or.inl ⟨by rfl, ?_⟩) (by assumption) ?_
            rotate_left
            (focus (intro w hSw; (try dsimp only at hSw); go_simp; (try with_reducible rfl)))
            (try simp only [Act.put, List.getElem_toArray, List.getElem_cons_zero, List.getElem_cons_succ, List.setIfInBounds_toArray, List.set_cons_zero, List.set_cons_succ])
            refine wpAnyH_take (i := 8) (v := ?_) rfl (by kernel_rfl) (by kernel_rfl) (by kernel_rfl) (fun _ _ _ h => h) (Or.inl ⟨by rfl, ?_⟩) (by assumption) ?_
            rotate_left
            (focus (intro w hSw; (try dsimp only at hSw); go_simp; (try with_reducible rfl)))
            (try simp only [Act.put, List.getElem_toArray, List.getElem_cons_zero, List.getElem_cons_succ, List.setIfInBounds_toArray, List.set_cons_zero, List.set_cons_succ])
            refine wpAnyH_take (i := 9) (v := ?_) rfl (by kernel_rfl) (by kernel_rfl) (by kernel_rfl) (fun _ _ _ h => h) (Or.inl ⟨by rfl, ?_⟩) (by assumption) ?_
            rotate_left
            (focus (intro w hSw; (try dsimp only at hSw); go_simp; (try with_reducible rfl)))
            (try simp only [Act.put, List.getElem_toArray, List.getElem_cons_zero, List.getElem_cons_succ, List.setIfInBounds_toArray, List.set_cons_zero, List.set_cons_succ])
            refine wpAnyH_take (i := 10) (v := ?_) rfl (by kernel_rfl) (by kernel_rfl) (by kernel_rfl) (fun _ _ _ h => h) (Or.inl ⟨by rfl, ?_⟩) (by assumption) ?_
            rotate_left
            (focus (intro w hSw; (try dsimp only at hSw); go_simp; (try with_reducible rfl)))
            (try simp only [Act.put, List.getElem_toArray, List.getElem_cons_zero, List.getElem_cons_succ, List.setIfInBounds_toArray, List.set_cons_zero, List.set_cons_succ])
            refine wpAnyH_take (i := 11) (v := ?_) rfl (by kernel_rfl) (by kernel_rfl) (by kernel_rfl) (fun _ _ _ h => h) (Or.inl ⟨by rfl, ?_⟩) (by assumption) ?_
            rotate_left
            (focus (intro w hSw; (try dsimp only at hSw); go_simp; (try with_reducible rfl)))
            (try simp only [Act.put, List.getElem_toArray, List.getElem_cons_zero, List.getElem_cons_succ, List.setIfInBounds_toArray, List.set_cons_zero, List.set_cons_succ])
            refine wpAnyH_done (by kernel_rfl) ?_ _
            (try simp only [List.getElem_toArray, List.getElem_cons_succ, List.getElem_cons_zero, List.setIfInBounds_toArray, List.set_cons_zero, List.set_cons_succ])
            clear hHeld cbx cg a1
            by_cases hyz : y < z
            · have q1 : (FloatKind.f64.format.order (fl y) (fl z) == some Ordering.lt) = true := by
                rw [show FloatKind.f64.format = Ieee.double from rfl, fl_order y z (by omega) (by omega), Int.compare_eq_lt.2 (by omega)]
                rfl
              have HCLN := Lib.hid (clone_any lo hj (.slice (some ⟨B + 1, 0, none⟩) ns.length ns.length) wr.drew (by rw [HLEN.out]; exact hnl) (by rw [HLEN.out]; omega) (bk_cxs HBKj.out.drew HLEN.out ha))
              unfold ClonePost at HCLN
              rw [q1]
              go_upto_region 12 with (go_at_call 35; (with_reducible refine HCLN.out.mono ?_); rintro _ w5 ⟨r5, rfl, hb5, hr5⟩)
              rw [HLEN.out] at hr5
              obtain ⟨g5, cap5, cur5, rfl, hc1, hc2, hc3, hc4, hc5⟩ := hr5.form (by omega)
              have hg5 : wr.heap.size ≤ g5 := by
                rcases Nat.lt_or_ge g5 wr.heap.size with h' | h'
                · have e := hc4.2
                  rw [ob_low (show g5 < wr.drew.heap.size from h')] at e
                  cases e
                · exact h'
              have hBr : B + 1 < wr.heap.size := HBKj.out.lt
              have cb5 := (HBKj.out.drew.below hb5 HBKj.out.lt).cell m (cxs_get hmd)
              rw [← HXYZ.out.1, ← HXYZ.out.2.1] at cb5
              have cf5 : w5.cell? ⟨g5, m, none⟩ = some (cx x y) := by
                refine hc4.1.cell m ?_
                rw [← List.getElem?_take_of_lt (show m < ns.length * 1 by omega), hc5, cxs_get hmd, ← HXYZ.out.1, ← HXYZ.out.2.1]
              have ff5 := hc4.1.frozen m
              have hup := run_up y (by omega)
              unfold cx at cb5 cf5
              have HC5 := Lib.hid (And.intro hc1 (And.intro hc2 (And.intro hc3 (And.intro hc4 hc5))))
              have HB5 := Lib.hid hb5
              have HG5 := Lib.hid (And.intro hg5 hBr)
              clear hc1 hc2 hc3 hc4 hc5 hb5 hr5 hg5 hBr
              refine wp_region_held_drew (S := fun w' => w'.cell? ⟨B + 1, m, none⟩ = some (.complex .f64 (fl x) (fl y))) (by kernel_rfl) cb5 (fun hHeld => ?_)
              refine wpAnyH_take (i := 0) (v := ?_) rfl (by kernel_rfl) (by kernel_rfl) (by kernel_rfl) (fun _ _ _ h => h) (Or.inl ⟨by rfl, ?_⟩) (by assumption) ?_
              rotate_left
              (focus (intro w hSw; (try dsimp only at hSw); go_simp; (try with_reducible rfl)))
              (try simp only [Act.put, List.getElem_toArray, List.getElem_cons_zero, List.getElem_cons_succ, List.setIfInBounds_toArray, List.set_cons_zero, List.set_cons_succ])
              refine wpAnyH_take (i := 1) (v := ?_) rfl (by kernel_rfl) (by kernel_rfl) (by kernel_rfl) (fun _ _ _ h => h) (Or.inl ⟨by rfl, ?_⟩) (by assumption) ?_
              rotate_left
              (focus (intro w hSw; (try dsimp only at hSw); go_simp; (try with_reducible rfl)))
              (try simp only [Act.put, List.getElem_toArray, List.getElem_cons_zero, List.getElem_cons_succ, List.setIfInBounds_toArray, List.set_cons_zero, List.set_cons_succ])
              refine wpAnyH_take (i := 2) (v := ?_) rfl (by kernel_rfl) (by kernel_rfl) (by kernel_rfl) (fun _ _ _ h => h) (Or.inl ⟨by rfl, ?_⟩) (by assumption) ?_
              rotate_left
              (focus (intro w hSw; (try dsimp only at hSw); go_simp; (try with_reducible rfl)))
              (try simp only [Act.put, List.getElem_toArray, List.getElem_cons_zero, List.getElem_cons_succ, List.setIfInBounds_toArray, List.set_cons_zero, List.set_cons_succ])
              refine wpAnyH_take (i := 3) (v := ?_) rfl (by kernel_rfl) (by kernel_rfl) (by kernel_rfl) (fun _ _ _ h => h) (Or.inl ⟨by rfl, ?_⟩) (by assumption) ?_
              rotate_left
              (focus (intro w hSw; (try dsimp only at hSw); go_simp; (try with_reducible rfl)))
              (try simp only [Act.put, List.getElem_toArray, List.getElem_cons_zero, List.getElem_cons_succ, List.setIfInBounds_toArray, List.set_cons_zero, List.set_cons_succ])
              refine wpAnyH_take (i := 4) (v := ?_) rfl (by kernel_rfl) (by kernel_rfl) (by kernel_rfl) (fun _ _ _ h => h) (Or.inl ⟨by rfl, ?_⟩) (by assumption) ?_
              rotate_left
              (focus (intro w hSw; (try dsimp only at hSw); go_simp; (try with_reducible rfl)))
              (try simp only [Act.put, List.getElem_toArray, List.getElem_cons_zero, List.getElem_cons_succ, List.setIfInBounds_toArray, List.set_cons_zero, List.set_cons_succ])
              refine wpAnyH_take (i := 5) (v := ?_) rfl (by kernel_rfl) (by kernel_rfl) (by kernel_rfl) (fun _ _ _ h => h) (Or.inl ⟨by rfl, ?_⟩) (by assumption) ?_
              rotate_left
              (focus (intro w hSw; (try dsimp only at hSw); go_simp; (try with_reducible rfl)))
              (try simp only [Act.put, List.getElem_toArray, List.getElem_cons_zero, List.getElem_cons_succ, List.setIfInBounds_toArray, List.set_cons_zero, List.set_cons_succ])
              refine wpAnyH_take (i := 6) (v := ?_) rfl (by kernel_rfl) (by kernel_rfl) (by kernel_rfl) (fun _ _ _ h => h) (Or.inl ⟨by rfl, ?_⟩) (by assumption) ?_
              rotate_left
              (focus (intro w hSw; (try dsimp only at hSw); go_simp; (try with_reducible rfl)))
              (try simp only [Act.put, List.getElem_toArray, List.getElem_cons_zero, List.getElem_cons_succ, List.setIfInBounds_toArray, List.set_cons_zero, List.set_cons_succ])
              refine wpAnyH_take (i := 7) (v := ?_) rfl (by kernel_rfl) (by kernel_rfl) (by kernel_rfl) (fun _ _ _ h => h) (Or.inl ⟨by rfl, ?_⟩) (by assumption) ?_
              rotate_left
              (focus (intro w hSw; (try dsimp only at hSw); go_simp; (try with_reducible rfl)))
              (try simp only [Act.put, List.getElem_toArray, List.getElem_cons_zero, List.getElem_cons_succ, List.setIfInBounds_toArray, List.set_cons_zero, List.set_cons_succ])
              refine wpAnyH_take (i := 8) (v := ?_) rfl (by kernel_rfl) (by kernel_rfl) (by kernel_rfl) (fun _ _ _ h => h) (Or.inl ⟨by rfl, ?_⟩) (by assumption) ?_
              rotate_left
              (focus (intro w hSw; (try dsimp only at hSw); go_simp; (try with_reducible rfl)))
              (try simp only [Act.put, List.getElem_toArray, List.getElem_cons_zero, List.getElem_cons_succ, List.setIfInBounds_toArray, List.set_cons_zero, List.set_cons_succ])
              refine wpAnyH_take (i := 9) (v := ?_) rfl (by kernel_rfl) (by kernel_rfl) (by kernel_rfl) (fun _ _ _ h => h) (Or.inl ⟨by rfl, ?_⟩) (by assumption) ?_
              rotate_left
              (focus (intro w hSw; (try dsimp only at hSw); go_simp; (try with_reducible rfl)))
              (try simp only [Act.put, List.getElem_toArray, List.getElem_cons_zero, List.getElem_cons_succ, List.setIfInBounds_toArray, List.set_cons_zero, List.set_cons_succ])
              refine wpAnyH_take (i := 10) (v := ?_) rfl (by kernel_rfl) (by kernel_rfl) (by kernel_rfl) (fun _ _ _ h => h) (Or.inl ⟨by rfl, ?_⟩) (by assumption) ?_
              rotate_left
              (focus (intro w hSw; (try dsimp only at hSw); go_simp; (try with_reducible rfl)))
              (try simp only [Act.put, List.getElem_toArray, List.getElem_cons_zero, List.getElem_cons_succ, List.setIfInBounds_toArray, List.set_cons_zero, List.set_cons_succ])
              refine wpAnyH_take (i := 11) (v := ?_) rfl (by kernel_rfl) (by kernel_rfl) (by kernel_rfl) (fun _ _ _ h => h) (Or.inl ⟨by rfl, ?_⟩) (by assumption) ?_
              rotate_left
              (focus (intro w hSw; (try dsimp only at hSw); go_simp; (try with_reducible rfl)))
              (try simp only [Act.put, List.getElem_toArray, List.getElem_cons_zero, List.getElem_cons_succ, List.setIfInBounds_toArray, List.set_cons_zero, List.set_cons_succ])
              refine wpAnyH_take (i := 12) (v := ?_) rfl (by kernel_rfl) (by kernel_rfl) (by kernel_rfl) (fun _ _ _ h => h) (Or.inl ⟨by rfl, ?_⟩) (by assumption) ?_
              rotate_left
              (focus (intro w hSw; (try dsimp only at hSw); go_simp; (try with_reducible rfl)))
              (try simp only [Act.put, List.getElem_toArray, List.getElem_cons_zero, List.getElem_cons_succ, List.setIfInBounds_toArray, List.set_cons_zero, List.set_cons_succ])
              refine wpAnyH_take (i := 13) (v := ?_) rfl (by kernel_rfl) (by kernel_rfl) (by kernel_rfl) (fun _ _ _ h => h) (Or.inl ⟨by rfl, ?_⟩) (by assumption) ?_
              rotate_left
              (focus (intro w hSw; (try dsimp only at hSw); go_simp; (try with_reducible rfl)))
              (try simp only [Act.put, List.getElem_toArray, List.getElem_cons_zero, List.getElem_cons_succ, List.setIfInBounds_toArray, List.set_cons_zero, List.set_cons_succ])
              refine wpAnyH_take (i := 14) (v := ?_) rfl (by kernel_rfl) (by kernel_rfl) (by kernel_rfl) (fun _ _ _ h => h) (Or.inl ⟨by rfl, ?_⟩) (by assumption) ?_
              rotate_left
              (focus (intro w hSw; (try dsimp only at hSw); go_simp; (try with_reducible rfl)))
              (try simp only [Act.put, List.getElem_toArray, List.getElem_cons_zero, List.getElem_cons_succ, List.setIfInBounds_toArray, List.set_cons_zero, List.set_cons_succ])
              have cf6 : w5.drew.cell? ⟨g5, m, none⟩ = some (.complex .f64 (fl x) (fl y)) := cf5
              have ff6 : w5.drew.frozen? ⟨g5, m, none⟩ = false := ff5
              have cs6 : (w5.drew.cell? ⟨g5, m, none⟩).isSome = true := by rw [cf6]; rfl
              refine wpAnyH_ready (rs := [15]) (by kernel_rfl) (by simp) ?_
              refine AllReadyH.cons (by rw [List.getElem?_toArray]; exact rfl) (fun K hK => ?_) AllReadyH.nil
              (have tok15 : True := trivial; clear tok15; go_simp)
              have hne5 : B + 1 ≠ g5 := by have := HG5.out; omega
              have cb6 : (w5.setCell ⟨g5, m, none⟩ (.complex .f64 (fl y) (fl (y + 1)))).drew.cell? ⟨B + 1, m, none⟩ = some (.complex .f64 (fl x) (fl y)) := (World.cell?_setCell_other _ _ _ _ (by intro e; injection e with e1; exact hne5 e1.symm)).trans cb5
              refine hK.out _ _ cb6 (fun hHeld => ?_)
              clear hK K
              (try simp only [Act.put, List.getElem_toArray, List.getElem_cons_zero, List.getElem_cons_succ, List.setIfInBounds_toArray, List.set_cons_zero, List.set_cons_succ])
              refine wpAnyH_done (by kernel_rfl) ?_ _
              (try simp only [List.getElem_toArray, List.getElem_cons_succ, List.getElem_cons_zero, List.setIfInBounds_toArray, List.set_cons_zero, List.set_cons_succ])
              clear cf6 ff6 cs6 cf5 ff5 cb5 cb6 hHeld
              obtain ⟨w6, hw6⟩ : ∃ W, W = (w5.setCell ⟨g5, m, none⟩ (.complex .f64 (fl y) (fl (y + 1)))).drew := ⟨_, rfl⟩
              have hb5 : Below wr.heap.size wr w5 := ((Below.refl _ _).drew).trans HB5.out
              have hb6 : Below wr.heap.size wr w6 := by
                rw [hw6]
                exact (Below.setCell hb5 HG5.out.1 _).drew
              have hcx6 : Cxs w6 (.slice (some ⟨g5, 0, none⟩) ns.length cap5) (lo.set m y) (hj.set m (y + 1)) := by
                rw [hw6]
                refine row_cxs ((HC5.out.2.2.2.1.1.set_ m _).drew) (by rw [List.length_set]; exact HLEN.out) ha ?_
                rw [List.take_set, HC5.out.2.2.2.2]
                exact cxs_set HLEN.out hjl
              rw [← hw6]
              have hkp6 : KpS (B + 1) w2 w6 := HKPj.out.trans (KpS.below hb6)
              have hbw6 : Below B w w6 := HBWj.out.trans (hb6.mono (by have := HG5.out.2; omega))
              have hbk6 := HBKj.out.below hb6 HG5.out.2
              have hlt : hj.getD m 0 < ns.getD m 0 := by rw [← HXYZ.out.2.1, ← HXYZ.out.2.2]; exact hyz
              have hBX6 : Bx ns (lo.set m y) (hj.set m (y + 1)) := by
                rw [HXYZ.out.2.1]
                exact HBXj.out.slab hlt
              have HFR := Lib.hid (free_any ns _ _ F _ _ _ n0 w6 hBX6 H4.out.1 H4.out.2.1 hnl H4.out.2.2 (HNB.out w6 hbw6) (HU.out.below (by rw [← HBE.out]; exact hbw6)) hcx6)
              have hgB := hkp6.bk (show B ≠ B + 1 by omega) HGR2'.out
              have d0 := hgB.cell 0 rfl
              have d1 := hgB.cell 1 rfl
              have HS6 := Lib.hid (And.intro hb6 (And.intro hkp6 (And.intro hbw6 (And.intro hbk6 hBX6))))
              clear hw6 hb5 hb6 hcx6 hkp6 hbw6 hbk6 hlt hBX6 hgB
              obtain ⟨fr, hfr⟩ : ∃ b, b = frB F ns (lo.set m y) (hj.set m (y + 1)) := ⟨_, rfl⟩
              rw [← hfr] at HFR
              have HFRE := Lib.hid hfr
              clear hfr
              have hgk : gk = (gk - 1) + 1 := by
                have := HKj.out
                rw [← HXYZ.out.2.1, ← HXYZ.out.2.2] at this
                omega
              have HGK := Lib.hid hgk
              clear hgk
              cases fr with
              | false =>
                go_upto_region 13 with fail
                go_wp2_with (go_at_call 36; (with_reducible refine HFR.out.mono ?_); rintro _ w7 ⟨rfl, hb7⟩)
                have hjk : hj = hiK := by
                  have e := HGRj.out
                  rw [HGK.out] at e
                  unfold grK at e
                  rw [← HXYZ.out.2.1, ← HFRE.out, if_neg (by decide)] at e
                  exact e
                have HJK := Lib.hid hjk
                have HB7 := Lib.hid hb7
                clear hjk hb7
                go_roundg m
                case measure => have := HKm.out; omega
                case rel =>
                  have hs6 := HS6.out
                  have hz6 : B + 1 < w6.heap.size := hs6.2.2.2.1.lt
                  exact ⟨m, hj, rfl, by omega, by go_num, HBXj, Lib.hid (by rw [HJK.out]; exact HGR2.out), Lib.hid (hs6.2.2.2.1.below HB7.out hz6), Lib.hid (hs6.2.1.trans (KpS.below HB7.out)), Lib.hid (hs6.2.2.1.trans (HB7.out.mono (by omega)))⟩
              | true =>
                go_upto_region 13 with fail
                go_upto_region 14 with (go_at_call 36; (with_reducible refine HFR.out.mono ?_); rintro _ w7 ⟨rfl, hb7⟩)
                have hz6 : B + 1 < w6.heap.size := HS6.out.2.2.2.1.lt
                have hk7 := HS6.out.2.2.2.1.below hb7 hz6
                have c7 := hk7.cell m (cxs_get hmd)
                have f7 := hk7.frozen m
                rw [← HXYZ.out.1, ← HXYZ.out.2.1] at c7
                unfold cx at c7
                have hupi := run_upi x y (by omega) (by omega)
                have HK7 := Lib.hid hk7
                have HB7 := Lib.hid hb7
                clear hk7 hb7 hup
                go_wp2_with fail
                go_roundg (gk - 1)
                case measure => have := HGK.out; omega
                case rel =>
                  have hs6 := HS6.out
                  have hj2 : hj.getD m 0 < ns.getD m 0 := by rw [← HXYZ.out.2.1, ← HXYZ.out.2.2]; exact hyz
                  have hup2 := HBXj.out.up hj2
                  rw [← HXYZ.out.2.1] at hup2
                  refine ⟨hj.set m (y + 1), ?_, Lib.hid hup2, Lib.hid ?_, Lib.hid ?_, Lib.hid ?_, Lib.hid ?_⟩
                  · have e := HKj.out
                    rw [← HXYZ.out.2.1, ← HXYZ.out.2.2] at e
                    rw [getD_set, if_pos ⟨rfl, by omega⟩, ← HXYZ.out.2.2]
                    omega
                  · have e := HGRj.out
                    rw [HGK.out] at e
                    unfold grK at e
                    rw [← HXYZ.out.2.1, ← HFRE.out, if_pos rfl] at e
                    exact e
                  · have e := HK7.out.set_ m (cx x (y + 1))
                    rw [cxs_set HLEN.out hjl, set_getD_self HXYZ.out.1 (by rw [HLEN.out]; exact hmd)] at e
                    exact e
                  · exact (hs6.2.1.trans (KpS.below HB7.out)).trans (KpS.set _)
                  · exact Below.setCell (hs6.2.2.1.trans (HB7.out.mono (by omega))) (Nat.le_succ B) _
            · have q1 : (FloatKind.f64.format.order (fl y) (fl z) == some Ordering.lt) = false := by
                rw [show FloatKind.f64.format = Ieee.double from rfl, fl_order y z (by omega) (by omega)]
                rcases Nat.lt_or_ge z y with h' | h'
                · rw [Int.compare_eq_gt.2 (by omega)]; rfl
                · rw [Int.compare_eq_eq.2 (by omega)]; rfl
              have hk0 : gk = 0 := by rw [HKj.out, ← HXYZ.out.2.1, ← HXYZ.out.2.2]; omega
              have hjk : hj = hiK := by
                have e := HGRj.out
                rw [hk0] at e
                exact e
              have HJK := Lib.hid hjk
              clear hjk hk0
              rw [q1]
              go_wp2_with fail
              go_roundg m
              case measure => have := HKm.out; omega
              case rel => exact ⟨m, hj, rfl, by omega, by go_num, HBXj, Lib.hid (by rw [HJK.out]; exact HGR2.out), Lib.hid HBKj.out.drew, HKPj, Lib.hid HBWj.out.drew⟩
end Go.Proofs.Ytlpoopmjgobnnaa
