/- The contracts of the functions that the law reaches, part 2: what each returns and what becomes of memory. -/
import Derived.Test.YtldhhoinjdkdgaaSh
import Derived.Test.YtldhhoinjdkdgaaM1
set_option linter.unusedSimpArgs false
set_option linter.unusedVariables false
namespace Go.Proofs.Ytldhhoinjdkdgaa
open Go.RowKit Go.Sort

abbrev srt (l : List Int) : List Int := l.mergeSort fun x y => decide (x ≤ y)
theorem srt_len (l : List Int) : (srt l).length = l.length := List.length_mergeSort l
theorem put_heap (w : World) (n g : Nat) (d : Array Int) (os : Array Obj) (k : Nat) (hk : k < w.heap.size) :
    (grow (putRow (Value.int .i64) (Sort.ahead w n) g 0 d) os).heap[k]? = if g = k then (w.heap[k]?).map (onCells (putCells (Value.int .i64) 0 d)) else w.heap[k]? := by
  rw [heap_grow_old _ _ (by rw [size_putRow]; exact hk)]
  unfold putRow mapBlock
  simp only [heap_ahead]
  rw [Array.getElem?_modify]
theorem put_take (d : Array Int) (cs : List Value) (h : d.size ≤ cs.length) : ((putCells (Value.int .i64) 0 d cs.toArray).toList).take d.size = d.toList.map (Value.int .i64) := by
  unfold putCells
  refine List.ext_getElem (by simp; omega) fun i h1 h2 => ?_
  have hi : i < d.size := by simp at h2; exact h2
  simp [hi]
theorem put_len (d : Array Int) (cs : List Value) : ((putCells (Value.int .i64) 0 d cs.toArray).toList).length = cs.length := by
  unfold putCells; simp
theorem sort_any (o : Nat → Nat) (b : Nat) (v : Value) (xs : List Int) (w : World) (h : Row w o b v xs) (hl : xs.length ≤ 1000) :
    Calls Try.prog 23 #[v] w fun e w' => e = .returned (.tuple #[]) ∧ Row w' o b v (srt xs) ∧ Turn (· = b) w o w' o := by
  by_cases h0 : xs.length = 0
  · obtain ⟨A, c, rfl⟩ := row_is h
    obtain rfl := List.length_eq_zero_iff.1 h0
    refine (Try.slices_Sort_int_none A c w).mono ?_
    rintro _ _ ⟨rfl, rfl⟩
    have e : srt [] = [] := by unfold srt; exact List.mergeSort_nil
    exact ⟨rfl, by rw [e]; exact h, Turn.refl _ _ _⟩
  · obtain ⟨g, cap, cs, rfl, h1, h2, h3, h4, h5⟩ := h.form (by omega)
    have hH : Holds (Value.int .i64) w g 0 xs.toArray := fun j hj => by
      have hj' : j < xs.length := by simpa using hj
      rw [Nat.zero_add]
      refine ⟨?_, h4.1.frozen j⟩
      rw [h4.1.cell j (take_get h5 hj'), getD_get hj']
      simp [hj']
    refine (Try.slices_Sort_int g 0 cap xs w hH h4.1.lt (by omega)).mono ?_
    rintro _ w' ⟨rfl, n, os, rfl⟩
    have hs : (srt xs).toArray.size = xs.length := by simp
    have hk := fun k hk => put_heap w n g (srt xs).toArray os k hk
    have hg : Lb (grow (putRow (Value.int .i64) (Sort.ahead w n) g 0 (srt xs).toArray) os) o b g 3 (putCells (Value.int .i64) 0 (srt xs).toArray cs.toArray).toList := by
      refine ⟨?_, h4.2⟩
      unfold Bk
      rw [hk g h4.1.lt, if_pos rfl]
      have := h4.1
      unfold Bk at this
      rw [this]
      simp [onCells]
    refine ⟨rfl, ?_, ⟨rfl, rfl, rfl, ?_, fun _ _ => rfl, fun k hkk hn => ?_⟩⟩
    · have e := Row.of_block (xs := srt xs) (cap := cap) hg (by rw [srt_len]; exact h1) h2 (by rw [put_len]; exact h3) (by
        have := put_take (srt xs).toArray cs (by rw [hs]; omega)
        rw [hs] at this
        rw [srt_len, this])
      rw [srt_len] at e
      exact e
    · rw [size_grow, size_putRow]
      show w.heap.size ≤ w.heap.size + _
      omega
    · rw [hk k hkk, if_neg (fun e => hn (by rw [← e]; exact h4.2))]
end Go.Proofs.Ytldhhoinjdkdgaa

set_option linter.unusedSimpArgs false
set_option linter.unusedVariables false
namespace Go.Proofs.Ytldhhoinjdkdgaa
open Go.RowKit

def RchPost (ns : List (List Int)) (a : Int) (w : World) (e : Ending) (w' : World) : Prop := ∃ o v l c, e = .returned (.tuple #[v, .int .i64 c]) ∧ Row w' o 5 v l ∧ RchSpec ns a (chk ns) l c ∧ Turn (fun l => l ≠ 0) w (fun _ => 0) w' o
theorem spec_arg {ns : List (List Int)} {a ch : Int} (h : a < 0 ∨ (ns.length : Int) ≤ a) : RchSpec ns a ch [] 1 := by unfold RchSpec; rw [if_pos h]; exact ⟨rfl, rfl⟩
theorem spec_chk {ns : List (List Int)} {a ch : Int} (h : ¬ (a < 0 ∨ (ns.length : Int) ≤ a)) (hc : ch ≠ 0) : RchSpec ns a ch [] ch := by unfold RchSpec; rw [if_neg h, if_pos hc]; exact ⟨rfl, rfl⟩
theorem spec_ok {ns : List (List Int)} {a ch : Int} {l : List Int} (h : ¬ (a < 0 ∨ (ns.length : Int) ≤ a)) (hc : ch = 0) (h1 : l.Pairwise (· < ·)) (h2 : ∀ x : Int, x ∈ l ↔ ∃ k : Nat, x = k ∧ Rch ns a.toNat k) : RchSpec ns a ch l 0 := by
  unfold RchSpec; rw [if_neg h, if_neg (fun hh => hh hc)]; exact ⟨rfl, h1, h2⟩
theorem chk_zero {ns : List (List Int)} (hc : chk ns = 0) : longB ns = false ∧ formB ns = true := by
  unfold chk at hc
  by_cases hl : longB ns = true
  · rw [if_pos hl] at hc; cases hc
  · rw [if_neg hl] at hc
    by_cases e : formB ns = true
    · exact ⟨by simpa using hl, e⟩
    · rw [if_neg e] at hc; cases hc
theorem bfs_bound {ns : List (List Int)} {a : Nat} {ou : List Int} {i s : Nat} (h : Bfs ns a ou i s) : ou.length ≤ ns.length := h.found.len
set_option maxHeartbeats 4000000 in
theorem reach_any (ns : List (List Int)) (v : Value) (a : Int) (w : World) (h : Mat w v ns) : Calls Try.prog 13 #[v, .int .i64 a] w (RchPost ns a w) := by
  have HM := Lib.hid h
  have HC := Lib.hid (check_any ns v w h)
  obtain ⟨A, C, rfl, m2, _⟩ := h
  unfold maxLen at m2
  by_cases ha0 : a < 0
  · have HS := Lib.hid (spec_arg (ns := ns) (a := a) (ch := chk ns) (.inl ha0))
    go_enter Try.func13, Try.ntmps13
    go_wp2_with fail
    go_ret2
    exact ⟨fun _ => 0, .slice none 0 0, [], 1, rfl, Row.nil _ _ _, HS.out, Turn.refl _ _ _⟩
  · by_cases ha1 : (ns.length : Int) ≤ a
    · have HS := Lib.hid (spec_arg (ns := ns) (a := a) (ch := chk ns) (.inr ha1))
      have ha2 : 0 ≤ a := by omega
      go_enter Try.func13, Try.ntmps13
      go_wp2_with fail
      go_ret2
      exact ⟨fun _ => 0, .slice none 0 0, [], 1, rfl, Row.nil _ _ _, HS.out, Turn.refl _ _ _⟩
    · have hna : ¬ (a < 0 ∨ (ns.length : Int) ≤ a) := by omega
      have ha2 : 0 ≤ a := by omega
      by_cases hz : chk ns = 0
      · obtain ⟨hl, hf⟩ := chk_zero hz
        obtain ⟨n1, n2⟩ := longB_not hl
        have HF := Lib.hid (formB_iff.1 hf)
        have HN2 := Lib.hid n2
        rw [hz] at HC
        have HNA := Lib.hid hna
        have HZ := Lib.hid hz
        obtain ⟨x, rfl⟩ := Int.eq_ofNat_of_zero_le ha2
        have hxn : x < ns.length := by omega
        have B0 := Far.mk (Bfs.start (ns := ns) hxn)
        clear hl hf n2 hz hna
        go_enter Try.func13, Try.ntmps13
        go_wp2_with fail
        refine HC.out.mono ?_
        rintro _ _ ⟨rfl, nn, rfl⟩
        have hxi : (x : Int) < (ns.length : Int) := by omega
        go_wp2_with (at_make; refine wpList_makeL rfl _ _ 30 4 rfl (.bool false) rfl 1 Try.underlying30 (by kernel_rfl) (fun _ => 0) 2 ns.length rfl rfl (by omega) (by unfold maxLen; omega) ?_; intro w1 lt0 t1; rw [← tb_nil] at lt0; have ct : w1.cell? ⟨w.heap.size, x, none⟩ = some (.bool (([] : List Int).contains (x : Int))) := lt0.1.cell x (tb_get hxn); have ft : w1.frozen? ⟨w.heap.size, x, none⟩ = false := lt0.1.frozen x)
        have t2 : Turn (fun l => l ≠ 0) w (fun _ => 0) w1 (relabel (fun _ => 0) w.heap.size 2) := ((Turn.refl (fun l => l ≠ 0) w (fun _ => 0)).drewN nn).trans (t1.mono fun _ h => h.elim)
        have oT : relabel (fun _ => 0) w.heap.size 2 w.heap.size = 2 := relabel_new (Nat.le_refl _)
        have l1 : Lb (w1.setCell ⟨w.heap.size, x, none⟩ (.bool true)) (relabel (fun _ => 0) w.heap.size 2) 2 w.heap.size 4 (tb ns.length [(x : Int)]) := by
          have := lt0.set_ x (.bool true)
          rw [tb_set hxn] at this
          exact this
        have t3 : Turn (fun l => l ≠ 0) w (fun _ => 0) (w1.setCell ⟨w.heap.size, x, none⟩ (.bool true)) (relabel (fun _ => 0) w.heap.size 2) := t2.setCell (.inl (Nat.le_refl _)) _
        have e1 : (w1.setCell ⟨w.heap.size, x, none⟩ (.bool true)).heap.size = w1.heap.size := World.size_setCell _ _ _
        generalize hW1 : w1.setCell ⟨w.heap.size, x, none⟩ (.bool true) = W1 at *
        have l2 := Lb.new (w := W1) (relabel (fun _ => 0) w.heap.size 2) 5 3 [.int .i64 x] (Nat.le_refl _)
        have t4 : Turn (fun _ => False) W1 (relabel (fun _ => 0) w.heap.size 2) (W1.alloc (.cells #[.int .i64 x] 3)) (relabel (relabel (fun _ => 0) w.heap.size 2) W1.heap.size 5) := ((Turn.refl _ _ _).alloc _).relabel (Nat.le_refl _) 5
        have l3 := l1.turn t4 (fun h => h)
        have t5 := t3.trans (t4.mono fun _ h => h.elim)
        have r2 := Row.of_block (xs := [(x : Int)]) (cap := 1) l2 (Nat.le_refl _) (by decide) rfl rfl
        generalize (relabel (relabel (fun _ => 0) w.heap.size 2) W1.heap.size 5) = o0 at *
        rw [e1] at r2
        obtain ⟨gT, hgT⟩ : ∃ g, g = w.heap.size := ⟨_, rfl⟩
        obtain ⟨gO, hgO⟩ : ∃ g, g = w1.heap.size := ⟨_, rfl⟩
        rw [← hgT] at l3
        rw [← hgO] at r2
        rw [← hgT, ← hgO]
        generalize (W1.alloc (.cells #[.int .i64 x] 3)) = W0 at *
        clear ct ft lt0 t1 t2 t3 t4 l1 l2 oT e1 hW1 hgT hgO
        have HW := Lib.hid (And.intro l3 (And.intro r2 t5))
        clear l3 r2 t5
        go_loopg [8, 9] ns.length (fun k s8 s9 wr => ∃ (vo : Value) (o : Nat → Nat) (ou : List Int) (i : Nat), s8 = vo ∧ s9 = .int .i64 i ∧ k + i = ns.length ∧ i ≤ ou.length ∧ Far (Bfs ns x ou i 0) ∧ Lb wr o 2 gT 4 (tb ns.length ou) ∧ Row wr o 5 vo ou ∧ Turn (fun l => l ≠ 0) w (fun _ => 0) wr o)
        case atStart => exact ⟨_, o0, [(x : Int)], 0, rfl, rfl, rfl, Nat.zero_le _, B0, HW.out.1, HW.out.2.1, HW.out.2.2⟩
        case round =>
          obtain ⟨vo, o, ou, i, rfl, rfl, hk, hio, hbfs, lt, ro, tr⟩ := hrel
          have HK := Lib.hid hk
          have hin : i ≤ ns.length := by omega
          have hon := hbfs.out.found.len
          obtain ⟨Ao, co, rfl⟩ := row_is ro
          have hwb : Below w.heap.size w wr := tr.below (fun _ _ => by simp) (Nat.le_refl _)
          clear hk
          by_cases hlt : i < ou.length
          · obtain ⟨b1, q1, rfl, hc1⟩ := ro.lst.at hlt
            obtain ⟨y0, y1⟩ := hbfs.out.found.rng (ou.getD i 0) (by rw [getD_get hlt]; exact List.getElem_mem _)
            obtain ⟨y, hy⟩ := Int.eq_ofNat_of_zero_le y0
            rw [hy] at y1 hc1
            have HY := Lib.hid (And.intro hlt hy)
            have hyn : y < ns.length := by omega
            have i0 : (0 : Int) ≤ (y : Int) := by omega
            obtain ⟨b2, q2, u2, rfl, c2w, hl2⟩ := HM.out.at hyn
            have hc2 := (hwb.cell (p := ⟨b2, q2 + y, none⟩) (cell_lt c2w)).trans c2w
            obtain ⟨A2, C2, rfl, hb2⟩ := hl2.is
            unfold maxLen at hb2
            have HL2 := Lib.hid hl2
            have hs0 : (nd ns y).length ≤ 100 := HN2.out _ (nd_mem hyn)
            clear hy y0 hl2 c2w
            go_wp2_with fail
            obtain ⟨go, hgo⟩ : ∃ go : Nat, go = gk := ⟨_, rfl⟩
            rw [← hgo] at HK
            have HGO := Lib.hid hgo
            clear hgo
            go_loopg [8, 47] (nd ns y).length (fun k s8 s47 wr => ∃ (vo : Value) (o : Nat → Nat) (ou : List Int) (s : Nat), s8 = vo ∧ s47 = .int .i64 s ∧ k + s = (nd ns y).length ∧ Hid (i < ou.length ∧ ou.getD i 0 = y) ∧ Far (Bfs ns x ou i s) ∧ Lb wr o 2 gT 4 (tb ns.length ou) ∧ Row wr o 5 vo ou ∧ Turn (fun l => l ≠ 0) w (fun _ => 0) wr o)
            case atStart => exact ⟨_, o, ou, 0, rfl, rfl, rfl, HY, hbfs, lt, ro, tr⟩
            case round =>
              clear HY hbfs lt ro tr hwb hc1 hc2 hlt hon
              obtain ⟨vo, o, ou, s, rfl, rfl, hk, HY, hbfs, lt, ro, tr⟩ := hrel
              have HK2 := Lib.hid hk
              have hsn : s ≤ (nd ns y).length := by omega
              have hon := hbfs.out.found.len
              obtain ⟨Ao, co, rfl⟩ := row_is ro
              have hwb : Below w.heap.size w wr := tr.below (fun _ _ => by simp) (Nat.le_refl _)
              have hyt : (ou.getD i 0).toNat = y := by rw [HY.out.2]; rfl
              have HYT := Lib.hid hyt
              clear hk hyt
              by_cases hls : s < (nd ns y).length
              · obtain ⟨b4, q4, rfl, hc4⟩ := (HL2.out.below hwb).at hls
                obtain ⟨z0, z1⟩ := HF.out y s hyn hls
                obtain ⟨m, hm⟩ := Int.eq_ofNat_of_zero_le z0
                rw [hm] at z1 hc4
                have HMM := Lib.hid hm
                have hmn : m < ns.length := by omega
                have m0 : (0 : Int) ≤ (m : Int) := by omega
                have ct := lt.1.cell m (tb_get hmn)
                have ft := lt.1.frozen m
                obtain ⟨z, hz⟩ : ∃ z, z = ou.contains (m : Int) := ⟨_, rfl⟩
                rw [← hz] at ct
                have HZ2 := Lib.hid hz
                clear hm z0 hz
                cases z with
                | true =>
                  have hb2' := Far.mk (hbfs.out.old (by rw [HYT.out, HMM.out]; simpa using HZ2.out.symm))
                  go_wp2_with fail
                  go_roundg (gk - 1)
                  case measure => have := HK2.out; omega
                  case rel => exact ⟨_, o, ou, s + 1, rfl, by go_num, by have := HK2.out; omega, HY, hb2', lt, ro, tr⟩
                | false =>
                  have hno : (m : Int) ∉ ou := by
                    intro hh
                    have := HZ2.out
                    rw [List.contains_iff_mem.2 hh] at this
                    cases this
                  have hb2' := Far.mk (hbfs.out.new HY.out.1 (by rw [HYT.out]; exact hls) (by rw [HYT.out]; exact HMM.out) hmn hno)
                  have hY2 : Hid (i < (ou ++ [(m : Int)]).length ∧ (ou ++ [(m : Int)]).getD i 0 = y) := Lib.hid ⟨by rw [List.length_append]; have := HY.out.1; omega, by rw [getD_append_left HY.out.1]; exact HY.out.2⟩
                  have o2 : o gT = 2 := lt.2
                  have l2 : Lb (wr.setCell ⟨gT, m, none⟩ (.bool true)) o 2 gT 4 (tb ns.length (ou ++ [(m : Int)])) := by rw [← tb_set hmn]; exact lt.set_ m _
                  have r2 := ro.set (p := ⟨gT, m, none⟩) (by show o gT ≠ 5; rw [o2]; decide) (.bool true)
                  have tr2 : Turn (fun l => l ≠ 0) w (fun _ => 0) (wr.setCell ⟨gT, m, none⟩ (.bool true)) o := tr.setCell (.inl (by
                    rcases Nat.lt_or_ge gT w.heap.size with h1 | h1
                    · exact absurd (tr.num gT h1) (by rw [o2]; decide)
                    · exact h1)) _
                  have cb : ((wr.setCell ⟨gT, m, none⟩ (.bool true)).alloc (.cells #[.int .i64 m] 3)).cell? ⟨wr.heap.size, 0, none⟩ = some (.int .i64 m) :=
                    (Bk.new_ (w := wr.setCell ⟨gT, m, none⟩ (.bool true)) (cs := [.int .i64 m]) (World.size_setCell _ _ _).symm).cell 0 rfl
                  have CB := Lib.hid cb
                  clear lt ro tr cb hno
                  go_wp2_with (at_builtin; refine wpList_pushL rfl _ _ 24 rfl Try.underlying24 o 5 _ ou rfl (r2.alloc _) wr.heap.size m rfl CB.out (by omega) ?_; intro g6 cap6 w6 hr6 ht6 hlt6; have l6 := (l2.alloc _).turn ht6 (by decide); have tr6 := (tr2.alloc _).trans (ht6.mono fun l hl => by subst hl; decide))
                  go_roundg (gk - 1)
                  case measure => have := HK2.out; omega
                  case rel => exact ⟨_, _, ou ++ [(m : Int)], s + 1, rfl, by go_num, by have := HK2.out; omega, hY2, hb2', l6, hr6, tr6⟩
              · obtain rfl : s = (nd ns y).length := by omega
                have hb2' := Far.mk (hbfs.out.next HY.out.1 (by rw [HYT.out]; exact Nat.le_refl _))
                go_wp2_with fail
                go_roundg (go - 1)
                case measure => have := HK.out; have := HGO.out; have := HY.out.1; omega
                case rel => exact ⟨_, o, ou, i + 1, rfl, by go_num, by have := HK.out; have := HY.out.1; omega, by have := HY.out.1; omega, hb2', lt, ro, tr⟩
          · have hmem := Far.mk (hbfs.out.all (by omega))
            have hnd := Far.mk hbfs.out.found.nodup
            go_wp2_with fail
            refine (sort_any o 5 _ ou wr ro (by omega)).mono ?_
            rintro _ w7 ⟨rfl, r7, t7⟩
            have b7 : Turn (fun l => l ≠ 0) w (fun _ => 0) w7 o := tr.trans (t7.mono fun l hl => by subst hl; decide)
            have sp := spec_ok (ns := ns) (a := (x : Int)) (ch := chk ns) HNA.out HZ.out (sort_asc hnd.out) (fun z => (sort_mem z).trans (by rw [Int.toNat_natCast]; exact hmem.out z))
            have SP := Lib.hid sp
            clear sp
            go_wp2_with fail
            go_ret2
            exact ⟨o, _, srt ou, 0, rfl, r7, SP.out, b7⟩
      · have HS := Lib.hid (spec_chk hna hz)
        obtain ⟨z, hzz⟩ : ∃ z, z = chk ns := ⟨_, rfl⟩
        rw [← hzz] at hz HC
        have HZZ := Lib.hid hzz
        have hc2 : (z != 0) = true := by simpa using hz
        clear hz hzz hna
        go_enter Try.func13, Try.ntmps13
        go_wp2_with fail
        refine HC.out.mono ?_
        rintro _ _ ⟨rfl, nn, rfl⟩
        go_wp2_with fail
        go_ret2
        exact ⟨fun _ => 0, .slice none 0 0, [], z, rfl, Row.nil _ _ _, by rw [HZZ.out]; exact HS.out, (Turn.refl _ _ _).drewN _⟩
end Go.Proofs.Ytldhhoinjdkdgaa

set_option linter.unusedSimpArgs false
set_option linter.unusedVariables false
namespace Go.Proofs.Ytldhhoinjdkdgaa
open Go.RowKit

/-- closed below i, and of i the first s -/
def ClTo (ns : List (List Int)) (ou : List Int) (i s : Nat) : Prop := ∀ k : Nat, (k : Int) ∈ ou → ∀ c, c < (nd ns k).length → (k < i ∨ k = i ∧ c < s) → (nd ns k).getD c 0 ∈ ou
theorem ClTo.start (ns : List (List Int)) (ou : List Int) : ClTo ns ou 0 0 := fun k _ c _ h => by omega
theorem ClTo.more {ns : List (List Int)} {ou : List Int} {i s : Nat} (h : ClTo ns ou i s) (hm : (nd ns i).getD s 0 ∈ ou) : ClTo ns ou i (s + 1) := fun k hk c hc hh => by
  by_cases e : k = i ∧ c = s
  · obtain ⟨rfl, rfl⟩ := e; exact hm
  · exact h k hk c hc (by omega)
theorem ClTo.next {ns : List (List Int)} {ou : List Int} {i s : Nat} (h : ClTo ns ou i s) (hs : (nd ns i).length ≤ s) : ClTo ns ou (i + 1) 0 := fun k hk c hc hh => by
  refine h k hk c hc ?_
  by_cases e : k = i
  · subst e; exact .inr ⟨rfl, by omega⟩
  · exact .inl (by omega)
theorem ClTo.skip {ns : List (List Int)} {ou : List Int} {i : Nat} (h : ClTo ns ou i 0) (hs : (i : Int) ∉ ou) : ClTo ns ou (i + 1) 0 := fun k hk c hc hh => by
  refine h k hk c hc ?_
  by_cases e : k = i
  · subst e; exact absurd hk hs
  · exact .inl (by omega)
theorem ClTo.all {ns : List (List Int)} {ou : List Int} (h : ClTo ns ou ns.length 0) : ∀ k : Nat, (k : Int) ∈ ou → ∀ n ∈ nd ns k, n ∈ ou := fun k hk n hn => by
  have hkn : k < ns.length := by
    rcases Nat.lt_or_ge k ns.length with h1 | h1
    · exact h1
    · have : nd ns k = [] := by unfold nd; rw [List.getD_eq_getElem?_getD, List.getElem?_eq_none h1]; rfl
      rw [this] at hn; cases hn
  obtain ⟨c, hc, rfl⟩ := List.mem_iff_getElem.1 hn
  rw [← getD_get hc]
  exact h k hk c hc (.inl hkn)
def RefRch (ns : List (List Int)) (x : Nat) (w : World) (e : Ending) (w' : World) : Prop := ∃ o v l, e = .returned v ∧ Row w' o 5 v l ∧ l.Pairwise (· < ·) ∧ (∀ z : Int, z ∈ l ↔ ∃ k : Nat, z = k ∧ Rch ns x k) ∧ Turn (fun l => l ≠ 0) w (fun _ => 0) w' o
set_option maxHeartbeats 4000000 in
theorem refreach_any (ns : List (List Int)) (v : Value) (x : Nat) (hxn : x < ns.length) (w : World) (h : Mat w v ns) (hl : longB ns = false) (hf : formB ns = true) : Calls Try.prog 24 #[v, .int .i64 x] w (RefRch ns x w) := by
  have HM := Lib.hid h
  obtain ⟨n1, n2⟩ := longB_not hl
  have HF := Lib.hid (formB_iff.1 hf)
  have HN2 := Lib.hid n2
  obtain ⟨A, C, rfl, m2, _⟩ := h
  unfold maxLen at m2
  have F0 := Far.mk (Found.start (ns := ns) hxn)
  have hxi : (x : Int) < (ns.length : Int) := by omega
  clear hl hf n2
  go_enter Try.func24, Try.ntmps24
  go_wp2_with (at_make; refine wpList_makeL rfl _ _ 30 4 rfl (.bool false) rfl 1 Try.underlying30 (by kernel_rfl) (fun _ => 0) 2 ns.length rfl rfl (by omega) (by unfold maxLen; omega) ?_; intro w1 lt0 t1; rw [← tb_nil] at lt0; have ct := lt0.1.cell x (tb_get hxn); have ft := lt0.1.frozen x)
  have t2 : Turn (fun l => l ≠ 0) w (fun _ => 0) w1 (relabel (fun _ => 0) w.heap.size 2) := t1.mono fun _ h => h.elim
  have l1 : Lb (w1.setCell ⟨w.heap.size, x, none⟩ (.bool true)) (relabel (fun _ => 0) w.heap.size 2) 2 w.heap.size 4 (tb ns.length [(x : Int)]) := by
    have := lt0.set_ x (.bool true)
    rw [tb_set hxn] at this
    exact this
  have t3 : Turn (fun l => l ≠ 0) w (fun _ => 0) (w1.setCell ⟨w.heap.size, x, none⟩ (.bool true)) (relabel (fun _ => 0) w.heap.size 2) := t2.setCell (.inl (Nat.le_refl _)) _
  generalize w1.setCell ⟨w.heap.size, x, none⟩ (.bool true) = W1 at *
  generalize (relabel (fun _ => 0) w.heap.size 2) = o0 at *
  obtain ⟨gT, hgT⟩ : ∃ g, g = w.heap.size := ⟨_, rfl⟩
  rw [← hgT] at l1
  rw [← hgT]
  have hgW : w.heap.size ≤ gT := by omega
  clear ct ft lt0 t1 t2 hgT
  have HW := Lib.hid (And.intro l1 t3)
  clear l1 t3
  go_loopg [6] ns.length (fun k s6 wr => ∃ (b : Bool) (ou : List Int), s6 = .bool b ∧ Far (b = true → k + ou.length = ns.length + 1) ∧ Far (b = false → ClTo ns ou ns.length 0) ∧ Far (Found ns x ou) ∧ Lb wr o0 2 gT 4 (tb ns.length ou) ∧ Turn (fun l => l ≠ 0) w (fun _ => 0) wr o0)
  case atStart => exact ⟨true, [(x : Int)], rfl, Far.mk (fun _ => by simp), Far.mk (fun h => by cases h), F0, HW.out.1, HW.out.2⟩
  case round =>
    obtain ⟨b, ou, rfl, hk, hcl, hfo, lt, tr⟩ := hrel
    cases b with
    | true =>
      go_wp2_with fail
      have hk1 := hk.out (by simp)
      have hon := hfo.out.len
      have HK := Lib.hid (And.intro hk1 hon)
      clear hk1 hon hk hcl
      obtain ⟨go, hgo⟩ : ∃ go : Nat, go = gk := ⟨_, rfl⟩
      rw [← hgo] at HK
      have HGO := Lib.hid hgo
      clear hgo
      go_loopg [6, 7] ns.length (fun k s6 s7 wr => ∃ (b : Bool) (oo : List Int) (i : Nat), s6 = .bool b ∧ s7 = .int .i64 i ∧ k + i = ns.length ∧ Far (b = true → ou.length < oo.length) ∧ Far (b = false → oo = ou ∧ ClTo ns oo i 0) ∧ Far (Found ns x oo) ∧ Lb wr o0 2 gT 4 (tb ns.length oo) ∧ Turn (fun l => l ≠ 0) w (fun _ => 0) wr o0)
      case atStart => exact ⟨false, ou, 0, rfl, rfl, rfl, Far.mk (fun h => by cases h), Far.mk (fun _ => ⟨rfl, ClTo.start _ _⟩), hfo, lt, tr⟩
      case round =>
        clear lt tr hfo
        obtain ⟨b, oo, i, rfl, rfl, hk, hbt, hbf, hfo, lt, tr⟩ := hrel
        have HK1 := Lib.hid hk
        have hin : i ≤ ns.length := by omega
        clear hk
        by_cases hlt : i < ns.length
        · go_wp2_with fail
          obtain ⟨b2, q2, u2, rfl, c2w, hl2⟩ := HM.out.at hlt
          obtain ⟨A2, C2, rfl, hb2⟩ := hl2.is
          unfold maxLen at hb2
          have HL2 := Lib.hid hl2
          have C2W := Lib.hid c2w
          have hs0 : (nd ns i).length ≤ 100 := HN2.out _ (nd_mem hlt)
          have i0 : (0 : Int) ≤ (i : Int) := by omega
          clear hl2 c2w
          obtain ⟨go1, hgo1⟩ : ∃ go : Nat, go = gk := ⟨_, rfl⟩
          rw [← hgo1] at HK1
          have HGO1 := Lib.hid hgo1
          clear hgo1
          go_loopg [6, 8] (nd ns i).length (fun k s6 s8 wr => ∃ (b : Bool) (oo : List Int) (s : Nat), s6 = .bool b ∧ s8 = .int .i64 s ∧ k + s = (nd ns i).length ∧ Far (b = true → ou.length < oo.length) ∧ Far (b = false → oo = ou ∧ ClTo ns oo i s) ∧ Far (Found ns x oo) ∧ Lb wr o0 2 gT 4 (tb ns.length oo) ∧ Turn (fun l => l ≠ 0) w (fun _ => 0) wr o0)
          case atStart => exact ⟨b, oo, 0, rfl, rfl, rfl, hbt, hbf, hfo, lt, tr⟩
          case round =>
            clear lt tr hfo hbt hbf
            obtain ⟨b, oo, s, rfl, rfl, hk, hbt, hbf, hfo, lt, tr⟩ := hrel
            have HK2 := Lib.hid hk
            have hsn : s ≤ (nd ns i).length := by omega
            have hwb : Below w.heap.size w wr := tr.below (fun _ _ => by simp) (Nat.le_refl _)
            have hc2 := (hwb.cell (p := ⟨b2, q2 + i, none⟩) (cell_lt C2W.out)).trans C2W.out
            have ci := lt.1.cell i (tb_get hlt)
            obtain ⟨z, hz⟩ : ∃ z, z = oo.contains (i : Int) := ⟨_, rfl⟩
            rw [← hz] at ci
            have HZI := Lib.hid hz
            clear hk hz
            cases z with
            | false =>
              have hno : (i : Int) ∉ oo := by
                intro hh
                have := HZI.out
                rw [List.contains_iff_mem.2 hh] at this
                cases this
              have hbf' : Far (b = false → oo = ou ∧ ClTo ns oo (i + 1) 0) := Far.mk fun hb => by
                obtain ⟨e1, e2⟩ := hbf.out hb
                refine ⟨e1, fun k hk c hc hh => ?_⟩
                by_cases e : k = i
                · subst e; exact absurd hk hno
                · exact e2 k hk c hc (.inl (by omega))
              clear hno
              go_wp2_with fail
              go_roundg (go1 - 1)
              case measure => have := HK1.out; have := HGO1.out; omega
              case rel => exact ⟨b, oo, i + 1, rfl, by go_num, by have := HK1.out; omega, hbt, hbf', hfo, lt, tr⟩
            | true =>
              by_cases hls : s < (nd ns i).length
              · obtain ⟨b4, q4, rfl, hc4⟩ := (HL2.out.below hwb).at hls
                obtain ⟨z0, z1⟩ := HF.out i s hlt hls
                obtain ⟨m, hm⟩ := Int.eq_ofNat_of_zero_le z0
                rw [hm] at z1 hc4
                have HMM := Lib.hid hm
                have hmn : m < ns.length := by omega
                have m0 : (0 : Int) ≤ (m : Int) := by omega
                have ct := lt.1.cell m (tb_get hmn)
                have ft := lt.1.frozen m
                obtain ⟨z, hz⟩ : ∃ z, z = oo.contains (m : Int) := ⟨_, rfl⟩
                rw [← hz] at ct
                have HZ2 := Lib.hid hz
                clear hm z0 hz
                cases z with
                | true =>
                  have hbf' : Far (b = false → oo = ou ∧ ClTo ns oo i (s + 1)) := Far.mk fun hb => by
                    obtain ⟨e1, e2⟩ := hbf.out hb
                    exact ⟨e1, e2.more (by rw [HMM.out]; simpa using HZ2.out.symm)⟩
                  go_wp2_with fail
                  go_roundg (gk - 1)
                  case measure => have := HK2.out; omega
                  case rel => exact ⟨b, oo, s + 1, rfl, by go_num, by have := HK2.out; omega, hbt, hbf', hfo, lt, tr⟩
                | false =>
                  have hno : (m : Int) ∉ oo := by
                    intro hh
                    have := HZ2.out
                    rw [List.contains_iff_mem.2 hh] at this
                    cases this
                  have hio : (i : Int) ∈ oo := by simpa using HZI.out.symm
                  have hfo' := Far.mk (hfo.out.add hio (n := m) (by rw [← HMM.out, getD_get hls]; exact List.getElem_mem _) hmn hno)
                  have hbt' : Far (true = true → ou.length < (oo ++ [(m : Int)]).length) := Far.mk fun _ => by
                    rw [List.length_append, List.length_singleton]
                    cases b with
                    | true => have := hbt.out rfl; omega
                    | false => rw [(hbf.out rfl).1]; omega
                  have l2 : Lb (wr.setCell ⟨gT, m, none⟩ (.bool true)) o0 2 gT 4 (tb ns.length (oo ++ [(m : Int)])) := by rw [← tb_set hmn]; exact lt.set_ m _
                  have tr2 : Turn (fun l => l ≠ 0) w (fun _ => 0) (wr.setCell ⟨gT, m, none⟩ (.bool true)) o0 := tr.setCell (.inl hgW) _
                  clear lt tr hno hio
                  go_wp2_with fail
                  go_roundg (gk - 1)
                  case measure => have := HK2.out; omega
                  case rel => exact ⟨true, oo ++ [(m : Int)], s + 1, rfl, by go_num, by have := HK2.out; omega, Far.mk (fun _ => hbt'.out (by simp)), Far.mk (fun h => by cases h), hfo', l2, tr2⟩
              · have hbf' : Far (b = false → oo = ou ∧ ClTo ns oo (i + 1) 0) := Far.mk fun hb => by
                  obtain ⟨e1, e2⟩ := hbf.out hb
                  exact ⟨e1, e2.next (by omega)⟩
                go_wp2_with fail
                go_roundg (go1 - 1)
                case measure => have := HK1.out; have := HGO1.out; omega
                case rel => exact ⟨b, oo, i + 1, rfl, by go_num, by have := HK1.out; omega, hbt, hbf', hfo, lt, tr⟩
        · obtain rfl : i = ns.length := by omega
          cases b with
          | true =>
            go_wp2_with fail
            go_roundg (ns.length + 1 - oo.length)
            case measure => have := HK.out; have := HGO.out; have := hbt.out (by simp); have := hfo.out.len; omega
            case rel => exact ⟨true, oo, rfl, Far.mk (fun _ => by have := hfo.out.len; omega), Far.mk (fun h => by cases h), hfo, lt, tr⟩
          | false =>
            go_wp2_with fail
            go_roundg 0
            case measure => have := HK.out; have := HGO.out; omega
            case rel => exact ⟨false, oo, rfl, Far.mk (fun h => by cases h), Far.mk (fun _ => (hbf.out (by simp)).2), hfo, lt, tr⟩
    | false =>
      have hall := Far.mk (hfo.out.all (ClTo.all (hcl.out (by simp))))
      clear hk hcl
      go_wp2_with fail
      go_loopg [9, 10] ns.length (fun k s9 s10 wr => ∃ (vo : Value) (o : Nat → Nat) (i : Nat), s9 = vo ∧ s10 = .int .i64 i ∧ k + i = ns.length ∧ Lb wr o 2 gT 4 (tb ns.length ou) ∧ Row wr o 5 vo (fl ou i) ∧ Turn (fun l => l ≠ 0) w (fun _ => 0) wr o)
      case atStart => exact ⟨_, o0, 0, rfl, rfl, rfl, lt, Row.nil _ _ _, tr⟩
      case round =>
        clear lt tr
        obtain ⟨vo, o, i, rfl, rfl, hk, lt, ro, tr⟩ := hrel
        have HK := Lib.hid hk
        have hin : i ≤ ns.length := by omega
        clear hk
        by_cases hlt : i < ns.length
        · have ci := lt.1.cell i (tb_get hlt)
          have i0 : (0 : Int) ≤ (i : Int) := by omega
          obtain ⟨z, hz⟩ : ∃ z, z = ou.contains (i : Int) := ⟨_, rfl⟩
          have hfs := fl_succ ou i
          rw [← hz] at ci hfs
          have HFS := Lib.hid hfs
          have hfl := fl_len ou i
          clear hz hfs
          cases z with
          | true =>
            obtain ⟨Ao, co, rfl⟩ := row_is ro
            go_wp2_with (at_builtin; refine wpList_pushL rfl _ _ 24 rfl Try.underlying24 o 5 _ (fl ou i) rfl (ro.alloc _) wr.heap.size i rfl (by simp) (by omega) ?_; intro g6 cap6 w6 hr6 ht6 hlt6; have l6 := (lt.alloc _).turn ht6 (by decide); have tr6 := (tr.alloc _).trans (ht6.mono fun l hl => by subst hl; decide))
            go_roundg (gk - 1)
            case measure => have := HK.out; omega
            case rel => exact ⟨_, _, i + 1, rfl, by go_num, by have := HK.out; omega, l6, by rw [HFS.out]; simp only [if_true]; exact hr6, tr6⟩
          | false =>
            go_wp2_with fail
            go_roundg (gk - 1)
            case measure => have := HK.out; omega
            case rel => exact ⟨_, _, i + 1, rfl, by go_num, by have := HK.out; omega, lt, by rw [HFS.out]; exact ro, tr⟩
        · obtain rfl : i = ns.length := by omega
          have hwb : Below w.heap.size w wr := tr.below (fun _ _ => by simp) (Nat.le_refl _)
          go_wp2_with fail
          go_ret
          exact ⟨o, _, _, rfl, ro, fl_asc _ _, fun z => (fl_mem hfo.out.rng z).trans (hall.out z), tr⟩
theorem docreach_any (ns : List (List Int)) (v : Value) (a : Int) (w : World) (h : Mat w v ns) : Calls Try.prog 14 #[v, .int .i64 a] w (RchPost ns a w) := by
  have HM := Lib.hid h
  have HC := Lib.hid (refcheck_any ns v w h)
  obtain ⟨A, C, rfl, m2, _⟩ := h
  unfold maxLen at m2
  by_cases ha0 : a < 0
  · have HS := Lib.hid (spec_arg (ns := ns) (a := a) (ch := chk ns) (.inl ha0))
    go_enter Try.func14, Try.ntmps14
    go_wp2_with fail
    go_ret2
    exact ⟨fun _ => 0, .slice none 0 0, [], 1, rfl, Row.nil _ _ _, HS.out, Turn.refl _ _ _⟩
  · by_cases ha1 : (ns.length : Int) ≤ a
    · have HS := Lib.hid (spec_arg (ns := ns) (a := a) (ch := chk ns) (.inr ha1))
      have ha2 : 0 ≤ a := by omega
      go_enter Try.func14, Try.ntmps14
      go_wp2_with fail
      go_ret2
      exact ⟨fun _ => 0, .slice none 0 0, [], 1, rfl, Row.nil _ _ _, HS.out, Turn.refl _ _ _⟩
    · have hna : ¬ (a < 0 ∨ (ns.length : Int) ≤ a) := by omega
      have ha2 : 0 ≤ a := by omega
      by_cases hz : chk ns = 0
      · obtain ⟨hl, hf⟩ := chk_zero hz
        rw [hz] at HC
        have HNA := Lib.hid hna
        have HZ := Lib.hid hz
        obtain ⟨x, rfl⟩ := Int.eq_ofNat_of_zero_le ha2
        have hxn : x < ns.length := by omega
        have HR := Lib.hid (fun n => refreach_any ns (.slice A ns.length C) x hxn (w.drewN n) (HM.out.drewN n) hl hf)
        clear hl hf hz hna
        go_enter Try.func14, Try.ntmps14
        go_wp2_with fail
        refine HC.out.mono ?_
        rintro _ _ ⟨rfl, nn, rfl⟩
        go_wp2_with fail
        refine (HR.out nn).mono ?_
        rintro _ w2 ⟨o, v2, l, rfl, r2, p1, p2, hb2⟩
        have P1 := Far.mk p1
        have P2 := Far.mk p2
        have hb : Turn (fun l => l ≠ 0) w (fun _ => 0) w2 o := ((Turn.refl _ _ _).drewN nn).trans hb2
        clear p1 p2 hb2
        go_wp2_with fail
        go_ret2
        exact ⟨o, v2, l, 0, rfl, r2, spec_ok HNA.out HZ.out P1.out (fun z => by rw [Int.toNat_natCast]; exact P2.out z), hb⟩
      · have HS := Lib.hid (spec_chk hna hz)
        obtain ⟨z, hzz⟩ : ∃ z, z = chk ns := ⟨_, rfl⟩
        rw [← hzz] at hz HC
        have HZZ := Lib.hid hzz
        have hc2 : (z != 0) = true := by simpa using hz
        clear hz hzz hna
        go_enter Try.func14, Try.ntmps14
        go_wp2_with fail
        refine HC.out.mono ?_
        rintro _ _ ⟨rfl, nn, rfl⟩
        go_wp2_with fail
        go_ret2
        exact ⟨fun _ => 0, .slice none 0 0, [], z, rfl, Row.nil _ _ _, by rw [HZZ.out]; exact HS.out, (Turn.refl _ _ _).drewN _⟩
end Go.Proofs.Ytldhhoinjdkdgaa

set_option linter.unusedSimpArgs false
set_option linter.unusedVariables false
namespace Go.Proofs.Ytldhhoinjdkdgaa
open Go.RowKit

theorem Row.relab {w w' : World} {o o' : Nat → Nat} {l l' : Nat} {v : Value} {xs : List Int} (h : Row w o l v xs) (hb : Below w.heap.size w w') (ho : ∀ g, g < w.heap.size → o g = l → o' g = l') : Row w' o' l' v xs := by
  refine ⟨⟨h.1.1, ?_⟩, fun g hg => ho g (h.1.lt g hg).2 (h.2 g hg)⟩
  rcases h.1.2 with hn | ⟨g, cap, cur, rfl, hbg, hgg, rest⟩
  · exact .inl hn
  · exact .inr ⟨g, cap, cur, rfl, hbg, (hb.block g (h.1.lt g rfl).2).trans hgg, rest⟩
theorem Row.store {w : World} {o : Nat → Nat} {l : Nat} {v : Value} {xs : List Int} (h : Row w o l v xs) {k : Nat} (hk : k < xs.length) (x : Int) :
    ∃ g cap u, v = .slice (some ⟨g, 0, none⟩) xs.length cap ∧ w.cell? ⟨g, k, none⟩ = some u ∧ w.frozen? ⟨g, k, none⟩ = false ∧ Row (w.setCell ⟨g, k, none⟩ (.int .i64 x)) o l v (xs.set k x) ∧ Turn (· = l) w o (w.setCell ⟨g, k, none⟩ (.int .i64 x)) o := by
  obtain ⟨g, cap, cs, rfl, h1, h2, h3, h4, h5⟩ := h.form (by omega)
  refine ⟨g, cap, _, rfl, h4.1.cell k (take_get h5 hk), h4.1.frozen k, ?_, (Turn.refl _ _ _).setCell (.inr h4.2) _⟩
  have e := Row.of_block (xs := xs.set k x) (cap := cap) (h4.set_ k (.int .i64 x)) (by simpa using h1) h2 (by simpa using h3) (take_set h5 k x)
  rw [List.length_set] at e
  exact e
theorem Cop.below {w w' : World} {gI : Nat} {G : Nat → Nat} {ns : List (List Int)} {t : Nat} (h : Cop w gI G ns t) (hb : Below w.heap.size w w') : Cop w' gI G ns t :=
  ⟨h.top.below hb h.top.lt, fun r hr => (h.row r hr).below hb (h.row r hr).lt, h.far⟩
theorem Cop.at {w : World} {gI : Nat} {G : Nat → Nat} {ns : List (List Int)} (h : Cop w gI G ns ns.length) {r : Nat} (hr : r < ns.length) : w.cell? ⟨gI, r, none⟩ = some (.slice (some ⟨G r, 0, none⟩) (nd ns r).length ((nd ns r).length + 2)) := by
  refine h.top.cell r ?_
  rw [List.getElem?_append_left (by simpa using hr), List.getElem?_map, List.getElem?_range hr]; rfl
theorem Cop.lst {w : World} {gI : Nat} {G : Nat → Nat} {ns : List (List Int)} (h : Cop w gI G ns ns.length) {r : Nat} (hr : r < ns.length) (hm : (nd ns r).length ≤ maxLen) : Lst w (.slice (some ⟨G r, 0, none⟩) (nd ns r).length ((nd ns r).length + 2)) (nd ns r) :=
  ⟨_, _, rfl, hm, fun c hc => ⟨G r, 0, rfl, by
    rw [Nat.zero_add]
    refine (h.row r hr).cell c ?_
    rw [List.getElem?_append_left (by simpa using hc)]
    exact getD_cell hc⟩⟩
theorem Cop.mat {w : World} {gI : Nat} {G : Nat → Nat} {ns : List (List Int)} (h : Cop w gI G ns ns.length) (hN : ns.length ≤ 1048576) (hR : ∀ r, r < ns.length → (nd ns r).length ≤ 1048576) : Mat w (.slice (some ⟨gI, 0, none⟩) ns.length (ns.length + 2)) ns :=
  ⟨_, _, rfl, by unfold maxLen; omega, fun r hr => ⟨gI, 0, _, rfl, by rw [Nat.zero_add]; exact h.at hr, h.lst hr (by have := hR r hr; unfold maxLen; omega)⟩⟩
theorem Cop.spare {w : World} {gI : Nat} {G : Nat → Nat} {ns : List (List Int)} (h : Cop w gI G ns ns.length) {r k : Nat} (hr : r < ns.length) (h1 : (nd ns r).length ≤ k) (h2 : k < (nd ns r).length + 2) : w.cell? ⟨G r, k, none⟩ = some (.int .i64 0) := by
  refine (h.row r hr).cell k ?_
  rw [List.getElem?_append_right (by simpa using h1), List.length_map]
  have : k - (nd ns r).length = 0 ∨ k - (nd ns r).length = 1 := by omega
  rcases this with e | e <;> rw [e] <;> rfl
/-- which call a block was made by -/
def five (a b c d : Nat) : Nat → Nat := fun k => if k < a then 0 else if k < b then 1 else if k < c then 2 else if k < d then 3 else 4
theorem five_low {a b c d k : Nat} (h : k < a) : five a b c d k = 0 := if_pos h
theorem loop_below {a b c d l : Nat} {B : Nat} {w w' w0 : World} (h : Turn (· = l) w (five a b c d) w' (five a b c d)) (hl : l ≠ 0) (hb : Below B w0 w) (hB : B ≤ a) (hs : B ≤ w.heap.size) : Below B w0 w' :=
  hb.trans (h.below (fun k hk => by rw [five_low (Nat.lt_of_lt_of_le hk hB)]; exact fun e => hl e.symm) hs)
theorem new_lab {w w' : World} {o : Nat → Nat} (h : Turn (fun l => l ≠ 0) w (fun _ => 0) w' o) {g : Nat} (hg : o g = 5) : w.heap.size ≤ g := by
  rcases Nat.lt_or_ge g w.heap.size with h1 | h1
  · have := h.num g h1
    rw [hg] at this
    cases this
  · exact h1
theorem Row.cong {w w' : World} {o : Nat → Nat} {l : Nat} {v : Value} {xs : List Int} (h : Row w o l v xs) (e : w = w') : Row w' o l v xs := e ▸ h
end Go.Proofs.Ytldhhoinjdkdgaa
