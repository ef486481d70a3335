/- The contracts of the functions that the law reaches, part 2: what each returns and what becomes of memory. -/
import Derived.Test.YtldhhoinjdkdgaaSh
import Derived.Test.YtldhhoinjdkdgaaM1
set_option linter.unusedSimpArgs false
set_option linter.unusedVariables false
namespace Go.Proofs.Ytldhhoinjdkdgaa
open Go.RowKit Go.Sort

abbrev srt (l : List Int) : List Int := l.mergeSort fun x y => decide (x ≤ y)
theorem srt_len (l : List Int) : (srt l).length = l.length := List.length_mergeSort l
theorem put_heap (w : World) (n g : Nat) (d : Array Int) (os : Array Obj) (k : Nat) (hk : k < w.heap.size) :
    (grow (putRow (Value.int .i64) (Sort.ahead w n) g 0 d) os).heap[k]? = if g = k then (w.heap[k]?).map (onCells (putCells (Value.int .i64) 0 d)) else w.heap[k]? := by
  rw [heap_grow_old _ _ (by rw [size_putRow]; exact hk)]
  unfold putRow mapBlock
  simp only [heap_ahead]
  rw [Array.getElem?_modify]
theorem put_take (d : Array Int) (cs : List Value) (h : d.size ≤ cs.length) : ((putCells (Value.int .i64) 0 d cs.toArray).toList).take d.size = d.toList.map (Value.int .i64) := by
  unfold putCells
  refine List.ext_getElem (by simp; omega) fun i h1 h2 => ?_
  have hi : i < d.size := by simp at h2; exact h2
  simp [hi]
theorem put_len (d : Array Int) (cs : List Value) : ((putCells (Value.int .i64) 0 d cs.toArray).toList).length = cs.length := by
  unfold putCells; simp
theorem sort_any (o : Nat → Nat) (b : Nat) (v : Value) (xs : List Int) (w : World) (h : Row w o b v xs) (hl : xs.length ≤ 1000) :
    Calls Try.prog 23 #[v] w fun e w' => e = .returned (.tuple #[]) ∧ Row w' o b v (srt xs) ∧ Turn (· = b) w o w' o := by
  by_cases h0 : xs.length = 0
  · obtain ⟨A, c, rfl⟩ := row_is h
    obtain rfl := List.length_eq_zero_iff.1 h0
    refine (Try.slices_Sort_int_none A c w).mono ?_
    rintro _ _ ⟨rfl, rfl⟩
    have e : srt [] = [] := by unfold srt; exact List.mergeSort_nil
    exact ⟨rfl, by rw [e]; exact h, Turn.refl _ _ _⟩
  · obtain ⟨g, cap, cs, rfl, h1, h2, h3, h4, h5⟩ := h.form (by omega)
    have hH : Holds (Value.int .i64) w g 0 xs.toArray := fun j hj => by
      have hj' : j < xs.length := by simpa using hj
      rw [Nat.zero_add]
      refine ⟨?_, h4.1.frozen j⟩
      rw [h4.1.cell j (take_get h5 hj'), getD_get hj']
      simp [hj']
    refine (Try.slices_Sort_int g 0 cap xs w hH h4.1.lt (by omega)).mono ?_
    rintro _ w' ⟨rfl, n, os, rfl⟩
    have hs : (srt xs).toArray.size = xs.length := by simp
    have hk := fun k hk => put_heap w n g (srt xs).toArray os k hk
    have hg : Lb (grow (putRow (Value.int .i64) (Sort.ahead w n) g 0 (srt xs).toArray) os) o b g 3 (putCells (Value.int .i64) 0 (srt xs).toArray cs.toArray).toList := by
      refine ⟨?_, h4.2⟩
      unfold Bk
      rw [hk g h4.1.lt, if_pos rfl]
      have := h4.1
      unfold Bk at this
      rw [this]
      simp [onCells]
    refine ⟨rfl, ?_, ⟨rfl, rfl, rfl, ?_, fun _ _ => rfl, fun k hkk hn => ?_⟩⟩
    · have e := Row.of_block (xs := srt xs) (cap := cap) hg (by rw [srt_len]; exact h1) h2 (by rw [put_len]; exact h3) (by
        have := put_take (srt xs).toArray cs (by rw [hs]; omega)
        rw [hs] at this
        rw [srt_len, this])
      rw [srt_len] at e
      exact e
    · rw [size_grow, size_putRow]
      show w.heap.size ≤ w.heap.size + _
      omega
    · rw [hk k hkk, if_neg (fun e => hn (by rw [← e]; exact h4.2))]
end Go.Proofs.Ytldhhoinjdkdgaa

set_option linter.unusedSimpArgs false
set_option linter.unusedVariables false
namespace Go.Proofs.Ytldhhoinjdkdgaa
open Go.RowKit

def RchPost (ns : List (List Int)) (a : Int) (w : World) (e : Ending) (w' : World) : Prop := ∃ o v l c, e = .returned (.tuple #[v, .int .i64 c]) ∧ Row w' o 5 v l ∧ RchSpec ns a (chk ns) l c ∧ Below w.heap.size w w'
theorem spec_arg {ns : List (List Int)} {a ch : Int} (h : a < 0 ∨ (ns.length : Int) ≤ a) : RchSpec ns a ch [] 1 := by unfold RchSpec; rw [if_pos h]; exact ⟨rfl, rfl⟩
theorem spec_chk {ns : List (List Int)} {a ch : Int} (h : ¬ (a < 0 ∨ (ns.length : Int) ≤ a)) (hc : ch ≠ 0) : RchSpec ns a ch [] ch := by unfold RchSpec; rw [if_neg h, if_pos hc]; exact ⟨rfl, rfl⟩
theorem spec_ok {ns : List (List Int)} {a ch : Int} {l : List Int} (h : ¬ (a < 0 ∨ (ns.length : Int) ≤ a)) (hc : ch = 0) (h1 : l.Pairwise (· < ·)) (h2 : ∀ x : Int, x ∈ l ↔ ∃ k : Nat, x = k ∧ Rch ns a.toNat k) : RchSpec ns a ch l 0 := by
  unfold RchSpec; rw [if_neg h, if_neg (fun hh => hh hc)]; exact ⟨rfl, h1, h2⟩
theorem chk_zero {ns : List (List Int)} (hc : chk ns = 0) : longB ns = false ∧ formB ns = true := by
  unfold chk at hc
  by_cases hl : longB ns = true
  · rw [if_pos hl] at hc; cases hc
  · rw [if_neg hl] at hc
    by_cases e : formB ns = true
    · exact ⟨by simpa using hl, e⟩
    · rw [if_neg e] at hc; cases hc
theorem bfs_bound {ns : List (List Int)} {a : Nat} {ou : List Int} {i s : Nat} (h : Bfs ns a ou i s) : ou.length ≤ ns.length := h.found.len
set_option maxHeartbeats 4000000 in
theorem reach_any (ns : List (List Int)) (v : Value) (a : Int) (w : World) (h : Mat w v ns) : Calls Try.prog 13 #[v, .int .i64 a] w (RchPost ns a w) := by
  have HM := Lib.hid h
  have HC := Lib.hid (check_any ns v w h)
  obtain ⟨A, C, rfl, m2, _⟩ := h
  unfold maxLen at m2
  by_cases ha0 : a < 0
  · have HS := Lib.hid (spec_arg (ns := ns) (a := a) (ch := chk ns) (.inl ha0))
    go_enter Try.func13, Try.ntmps13
    go_wp2_with fail
    go_ret2
    exact ⟨fun _ => 0, .slice none 0 0, [], 1, rfl, Row.nil _ _ _, HS.out, Below.refl _ _⟩
  · by_cases ha1 : (ns.length : Int) ≤ a
    · have HS := Lib.hid (spec_arg (ns := ns) (a := a) (ch := chk ns) (.inr ha1))
      have ha2 : 0 ≤ a := by omega
      go_enter Try.func13, Try.ntmps13
      go_wp2_with fail
      go_ret2
      exact ⟨fun _ => 0, .slice none 0 0, [], 1, rfl, Row.nil _ _ _, HS.out, Below.refl _ _⟩
    · have hna : ¬ (a < 0 ∨ (ns.length : Int) ≤ a) := by omega
      have ha2 : 0 ≤ a := by omega
      by_cases hz : chk ns = 0
      · obtain ⟨hl, hf⟩ := chk_zero hz
        obtain ⟨n1, n2⟩ := longB_not hl
        have HF := Lib.hid (formB_iff.1 hf)
        have HN2 := Lib.hid n2
        rw [hz] at HC
        have HNA := Lib.hid hna
        have HZ := Lib.hid hz
        obtain ⟨x, rfl⟩ := Int.eq_ofNat_of_zero_le ha2
        have hxn : x < ns.length := by omega
        have B0 := Far.mk (Bfs.start (ns := ns) hxn)
        clear hl hf n2 hz hna
        go_enter Try.func13, Try.ntmps13
        go_wp2_with fail
        refine HC.out.mono ?_
        rintro _ _ ⟨rfl, nn, rfl⟩
        have hxi : (x : Int) < (ns.length : Int) := by omega
        go_wp2_with (at_make; refine wpList_makeL rfl _ _ 30 4 rfl (.bool false) rfl 1 Try.underlying30 (by kernel_rfl) (fun _ => 0) 2 ns.length rfl rfl (by omega) (by unfold maxLen; omega) ?_; intro w1 lt0 t1; rw [← tb_nil] at lt0; have ct : w1.cell? ⟨w.heap.size, x, none⟩ = some (.bool (([] : List Int).contains (x : Int))) := lt0.1.cell x (tb_get hxn); have ft : w1.frozen? ⟨w.heap.size, x, none⟩ = false := lt0.1.frozen x)
        have t2 : Turn (fun l => l ≠ 0) w (fun _ => 0) w1 (relabel (fun _ => 0) w.heap.size 2) := ((Turn.refl (fun l => l ≠ 0) w (fun _ => 0)).drewN nn).trans (t1.mono fun _ h => h.elim)
        have oT : relabel (fun _ => 0) w.heap.size 2 w.heap.size = 2 := relabel_new (Nat.le_refl _)
        have l1 : Lb (w1.setCell ⟨w.heap.size, x, none⟩ (.bool true)) (relabel (fun _ => 0) w.heap.size 2) 2 w.heap.size 4 (tb ns.length [(x : Int)]) := by
          have := lt0.set_ x (.bool true)
          rw [tb_set hxn] at this
          exact this
        have t3 : Turn (fun l => l ≠ 0) w (fun _ => 0) (w1.setCell ⟨w.heap.size, x, none⟩ (.bool true)) (relabel (fun _ => 0) w.heap.size 2) := t2.setCell (.inl (Nat.le_refl _)) _
        have e1 : (w1.setCell ⟨w.heap.size, x, none⟩ (.bool true)).heap.size = w1.heap.size := World.size_setCell _ _ _
        generalize hW1 : w1.setCell ⟨w.heap.size, x, none⟩ (.bool true) = W1 at *
        have l2 := Lb.new (w := W1) (relabel (fun _ => 0) w.heap.size 2) 5 3 [.int .i64 x] (Nat.le_refl _)
        have t4 : Turn (fun _ => False) W1 (relabel (fun _ => 0) w.heap.size 2) (W1.alloc (.cells #[.int .i64 x] 3)) (relabel (relabel (fun _ => 0) w.heap.size 2) W1.heap.size 5) := ((Turn.refl _ _ _).alloc _).relabel (Nat.le_refl _) 5
        have l3 := l1.turn t4 (fun h => h)
        have t5 := t3.trans (t4.mono fun _ h => h.elim)
        have r2 := Row.of_block (xs := [(x : Int)]) (cap := 1) l2 (Nat.le_refl _) (by decide) rfl rfl
        generalize (relabel (relabel (fun _ => 0) w.heap.size 2) W1.heap.size 5) = o0 at *
        rw [e1] at r2
        obtain ⟨gT, hgT⟩ : ∃ g, g = w.heap.size := ⟨_, rfl⟩
        obtain ⟨gO, hgO⟩ : ∃ g, g = w1.heap.size := ⟨_, rfl⟩
        rw [← hgT] at l3
        rw [← hgO] at r2
        rw [← hgT, ← hgO]
        generalize (W1.alloc (.cells #[.int .i64 x] 3)) = W0 at *
        clear ct ft lt0 t1 t2 t3 t4 l1 l2 oT e1 hW1 hgT hgO
        have HW := Lib.hid (And.intro l3 (And.intro r2 t5))
        clear l3 r2 t5
        go_loopg [8, 9] ns.length (fun k s8 s9 wr => ∃ (vo : Value) (o : Nat → Nat) (ou : List Int) (i : Nat), s8 = vo ∧ s9 = .int .i64 i ∧ k + i = ns.length ∧ i ≤ ou.length ∧ Far (Bfs ns x ou i 0) ∧ Lb wr o 2 gT 4 (tb ns.length ou) ∧ Row wr o 5 vo ou ∧ Turn (fun l => l ≠ 0) w (fun _ => 0) wr o)
        case atStart => exact ⟨_, o0, [(x : Int)], 0, rfl, rfl, rfl, Nat.zero_le _, B0, HW.out.1, HW.out.2.1, HW.out.2.2⟩
        case round =>
          obtain ⟨vo, o, ou, i, rfl, rfl, hk, hio, hbfs, lt, ro, tr⟩ := hrel
          have HK := Lib.hid hk
          have hin : i ≤ ns.length := by omega
          have hon := hbfs.out.found.len
          obtain ⟨Ao, co, rfl⟩ := row_is ro
          have hwb : Below w.heap.size w wr := tr.below (fun _ _ => by simp) (Nat.le_refl _)
          clear hk
          by_cases hlt : i < ou.length
          · obtain ⟨b1, q1, rfl, hc1⟩ := ro.lst.at hlt
            obtain ⟨y0, y1⟩ := hbfs.out.found.rng (ou.getD i 0) (by rw [getD_get hlt]; exact List.getElem_mem _)
            obtain ⟨y, hy⟩ := Int.eq_ofNat_of_zero_le y0
            rw [hy] at y1 hc1
            have HY := Lib.hid (And.intro hlt hy)
            have hyn : y < ns.length := by omega
            have i0 : (0 : Int) ≤ (y : Int) := by omega
            obtain ⟨b2, q2, u2, rfl, c2w, hl2⟩ := HM.out.at hyn
            have hc2 := (hwb.cell (p := ⟨b2, q2 + y, none⟩) (cell_lt c2w)).trans c2w
            obtain ⟨A2, C2, rfl, hb2⟩ := hl2.is
            unfold maxLen at hb2
            have HL2 := Lib.hid hl2
            have hs0 : (nd ns y).length ≤ 100 := HN2.out _ (nd_mem hyn)
            clear hy y0 hl2 c2w
            go_wp2_with fail
            obtain ⟨go, hgo⟩ : ∃ go : Nat, go = gk := ⟨_, rfl⟩
            rw [← hgo] at HK
            have HGO := Lib.hid hgo
            clear hgo
            go_loopg [8, 47] (nd ns y).length (fun k s8 s47 wr => ∃ (vo : Value) (o : Nat → Nat) (ou : List Int) (s : Nat), s8 = vo ∧ s47 = .int .i64 s ∧ k + s = (nd ns y).length ∧ Hid (i < ou.length ∧ ou.getD i 0 = y) ∧ Far (Bfs ns x ou i s) ∧ Lb wr o 2 gT 4 (tb ns.length ou) ∧ Row wr o 5 vo ou ∧ Turn (fun l => l ≠ 0) w (fun _ => 0) wr o)
            case atStart => exact ⟨_, o, ou, 0, rfl, rfl, rfl, HY, hbfs, lt, ro, tr⟩
            case round =>
              clear HY hbfs lt ro tr hwb hc1 hc2 hlt hon
              obtain ⟨vo, o, ou, s, rfl, rfl, hk, HY, hbfs, lt, ro, tr⟩ := hrel
              have HK2 := Lib.hid hk
              have hsn : s ≤ (nd ns y).length := by omega
              have hon := hbfs.out.found.len
              obtain ⟨Ao, co, rfl⟩ := row_is ro
              have hwb : Below w.heap.size w wr := tr.below (fun _ _ => by simp) (Nat.le_refl _)
              have hyt : (ou.getD i 0).toNat = y := by rw [HY.out.2]; rfl
              have HYT := Lib.hid hyt
              clear hk hyt
              by_cases hls : s < (nd ns y).length
              · obtain ⟨b4, q4, rfl, hc4⟩ := (HL2.out.below hwb).at hls
                obtain ⟨z0, z1⟩ := HF.out y s hyn hls
                obtain ⟨m, hm⟩ := Int.eq_ofNat_of_zero_le z0
                rw [hm] at z1 hc4
                have HMM := Lib.hid hm
                have hmn : m < ns.length := by omega
                have m0 : (0 : Int) ≤ (m : Int) := by omega
                have ct := lt.1.cell m (tb_get hmn)
                have ft := lt.1.frozen m
                obtain ⟨z, hz⟩ : ∃ z, z = ou.contains (m : Int) := ⟨_, rfl⟩
                rw [← hz] at ct
                have HZ2 := Lib.hid hz
                clear hm z0 hz
                cases z with
                | true =>
                  have hb2' := Far.mk (hbfs.out.old (by rw [HYT.out, HMM.out]; simpa using HZ2.out.symm))
                  go_wp2_with fail
                  go_roundg (gk - 1)
                  case measure => have := HK2.out; omega
                  case rel => exact ⟨_, o, ou, s + 1, rfl, by go_num, by have := HK2.out; omega, HY, hb2', lt, ro, tr⟩
                | false =>
                  have hno : (m : Int) ∉ ou := by
                    intro hh
                    have := HZ2.out
                    rw [List.contains_iff_mem.2 hh] at this
                    cases this
                  have hb2' := Far.mk (hbfs.out.new HY.out.1 (by rw [HYT.out]; exact hls) (by rw [HYT.out]; exact HMM.out) hmn hno)
                  have hY2 : Hid (i < (ou ++ [(m : Int)]).length ∧ (ou ++ [(m : Int)]).getD i 0 = y) := Lib.hid ⟨by rw [List.length_append]; have := HY.out.1; omega, by rw [getD_append_left HY.out.1]; exact HY.out.2⟩
                  have o2 : o gT = 2 := lt.2
                  have l2 : Lb (wr.setCell ⟨gT, m, none⟩ (.bool true)) o 2 gT 4 (tb ns.length (ou ++ [(m : Int)])) := by rw [← tb_set hmn]; exact lt.set_ m _
                  have r2 := ro.set (p := ⟨gT, m, none⟩) (by show o gT ≠ 5; rw [o2]; decide) (.bool true)
                  have tr2 : Turn (fun l => l ≠ 0) w (fun _ => 0) (wr.setCell ⟨gT, m, none⟩ (.bool true)) o := tr.setCell (.inl (by
                    rcases Nat.lt_or_ge gT w.heap.size with h1 | h1
                    · exact absurd (tr.num gT h1) (by rw [o2]; decide)
                    · exact h1)) _
                  have cb : ((wr.setCell ⟨gT, m, none⟩ (.bool true)).alloc (.cells #[.int .i64 m] 3)).cell? ⟨wr.heap.size, 0, none⟩ = some (.int .i64 m) :=
                    (Bk.new_ (w := wr.setCell ⟨gT, m, none⟩ (.bool true)) (cs := [.int .i64 m]) (World.size_setCell _ _ _).symm).cell 0 rfl
                  have CB := Lib.hid cb
                  clear lt ro tr cb hno
                  go_wp2_with (at_builtin; refine wpList_pushL rfl _ _ 24 rfl Try.underlying24 o 5 _ ou rfl (r2.alloc _) wr.heap.size m rfl CB.out (by omega) ?_; intro g6 cap6 w6 hr6 ht6 hlt6; have l6 := (l2.alloc _).turn ht6 (by decide); have tr6 := (tr2.alloc _).trans (ht6.mono fun l hl => by subst hl; decide))
                  go_roundg (gk - 1)
                  case measure => have := HK2.out; omega
                  case rel => exact ⟨_, _, ou ++ [(m : Int)], s + 1, rfl, by go_num, by have := HK2.out; omega, hY2, hb2', l6, hr6, tr6⟩
              · obtain rfl : s = (nd ns y).length := by omega
                have hb2' := Far.mk (hbfs.out.next HY.out.1 (by rw [HYT.out]; exact Nat.le_refl _))
                go_wp2_with fail
                go_roundg (go - 1)
                case measure => have := HK.out; have := HGO.out; have := HY.out.1; omega
                case rel => exact ⟨_, o, ou, i + 1, rfl, by go_num, by have := HK.out; have := HY.out.1; omega, by have := HY.out.1; omega, hb2', lt, ro, tr⟩
          · have hmem := Far.mk (hbfs.out.all (by omega))
            have hnd := Far.mk hbfs.out.found.nodup
            go_wp2_with fail
            refine (sort_any o 5 _ ou wr ro (by omega)).mono ?_
            rintro _ w7 ⟨rfl, r7, t7⟩
            have b7 : Below w.heap.size w w7 := (tr.trans (t7.mono fun l hl => by subst hl; decide)).below (fun _ _ => by simp) (Nat.le_refl _)
            have sp := spec_ok (ns := ns) (a := (x : Int)) (ch := chk ns) HNA.out HZ.out (sort_asc hnd.out) (fun z => (sort_mem z).trans (by rw [Int.toNat_natCast]; exact hmem.out z))
            have SP := Lib.hid sp
            clear sp
            go_wp2_with fail
            go_ret2
            exact ⟨o, _, srt ou, 0, rfl, r7, SP.out, b7⟩
      · have HS := Lib.hid (spec_chk hna hz)
        obtain ⟨z, hzz⟩ : ∃ z, z = chk ns := ⟨_, rfl⟩
        rw [← hzz] at hz HC
        have HZZ := Lib.hid hzz
        have hc2 : (z != 0) = true := by simpa using hz
        clear hz hzz hna
        go_enter Try.func13, Try.ntmps13
        go_wp2_with fail
        refine HC.out.mono ?_
        rintro _ _ ⟨rfl, nn, rfl⟩
        go_wp2_with fail
        go_ret2
        exact ⟨fun _ => 0, .slice none 0 0, [], z, rfl, Row.nil _ _ _, by rw [HZZ.out]; exact HS.out, below_drewN (Below.refl _ _) _⟩
end Go.Proofs.Ytldhhoinjdkdgaa
