/- Sweep: the document's Cell and within. -/
import Derived.Test.YtlpoopmjgobnnaaAi
import Derived.BigRegion
import Derived.Deep.DeepCutAuto
set_option linter.unusedSimpArgs false
set_option linter.unusedVariables false
namespace Go.Proofs.Ytlpoopmjgobnnaa
open Go.RowKit

theorem info_int1 : (Try.prog.info? 3).map (fun i => (i.zero, i.size, i.bytes)) = some (some (.int .i64 0), 1, 8) := by kernel_rfl
/-- numbers as cells -/
def ints (l : List Nat) : List Value := l.map fun (x : Nat) => Value.int .i64 (x : Int)
theorem ints_len (l : List Nat) : (ints l).length = l.length := List.length_map _
theorem ints_get {l : List Nat} {k : Nat} (h : k < l.length) : (ints l)[k]? = some (.int .i64 (l.getD k 0 : Nat)) := by
  unfold ints
  rw [List.getElem?_map, List.getElem?_eq_getElem h, List.getD_eq_getElem?_getD, List.getElem?_eq_getElem h]; rfl
theorem ints_set (l : List Nat) (k x : Nat) : (ints l).set k (.int .i64 (x : Int)) = ints (l.set k x) := by
  unfold ints
  rw [List.map_set]
theorem bk_lst {w : World} {g : Nat} {t : TypeId} {l : List Nat} {n C : Nat} (h : Bk w g t (ints l)) (hn : l.length = n) (hm : n ≤ maxLen) : Lst w (.slice (some ⟨g, 0, none⟩) n C) (zs l) := by
  subst hn
  refine ⟨_, C, by rw [zs_len], by rw [zs_len]; exact hm, fun k hk => ⟨g, 0, rfl, ?_⟩⟩
  rw [zs_len] at hk
  rw [Nat.zero_add, zs_get]
  exact h.cell k (ints_get hk)
/-- the numbers found so far, the last ones -/
def dgB (ns : List Nat) (i m : Nat) : List Nat := List.replicate m 0 ++ (dgL ns i).drop m
theorem dgB_len {ns : List Nat} {i m : Nat} (h : m ≤ ns.length) : (dgB ns i m).length = ns.length := by
  unfold dgB
  rw [List.length_append, List.length_replicate, List.length_drop, dg_len]
  omega
theorem dgB_set {ns : List Nat} {i m : Nat} (h : m < ns.length) : (dgB ns i (m + 1)).set m (i / prodL (ns.drop (m + 1)) % ns.getD m 0) = dgB ns i m := by
  unfold dgB
  rw [List.replicate_succ', List.append_assoc, List.set_append_right _ _ (by rw [List.length_replicate]; exact Nat.le_refl _), List.length_replicate, Nat.sub_self]
  congr 1
  rw [drop_at (l := dgL ns i) (t := m) (by rw [dg_len]; exact h) 0, dg_get ns i m h]
  rfl
theorem div_step {ns : List Nat} {i m : Nat} (h : m < ns.length) : i / prodL (ns.drop (m + 1)) / ns.getD m 0 = i / prodL (ns.drop m) := by
  rw [prod_drop h, Nat.div_div_eq_div_mul, Nat.mul_comm]
def CellPost (ns : List Nat) (i : Nat) (w : World) (e : Ending) (w' : World) : Prop := ∃ g, e = .returned (.slice (some ⟨g, 0, none⟩) ns.length ns.length) ∧ w.heap.size ≤ g ∧ Bk w' g 3 (ints (dgL ns i)) ∧ Below w.heap.size w w'
set_option maxHeartbeats 1000000 in
theorem rcell_any (ns : List Nat) (i : Nat) (v : Value) (w : World) (hp : ∀ n ∈ ns, 0 < n) (hn : ns.length ≤ 1000) (hi : i < 1000000) (h : Lst w v (zs ns)) : Calls Try.prog 30 #[v, .int .i64 i] w (CellPost ns i w) := by
  have HI := Lib.hid h
  obtain ⟨A, C, rfl, ha, _⟩ := h
  rw [zs_len] at ha ⊢
  unfold CellPost
  have HP := Lib.hid hp
  clear hp
  go_enter Try.func30, Try.ntmps30
  go_upto_region 2 with (at_make; refine wpList_makeM rfl _ _ 22 3 rfl (.int .i64 0) rfl 8 Try.underlying22 info_int1 (ob w.heap.size) 1 ns.length rfl rfl (by omega) (by unfold maxLen; omega) ?_; intro w3 lw t3)
  rw [ob_re (Nat.le_refl _)] at lw t3
  have hB3 : Below w.heap.size w w3 := ob_below (w0 := w) (t3.mono (fun l hl => hl.elim)) (Below.refl _ _)
  obtain ⟨g, hgd⟩ : ∃ g, g = w.heap.size := ⟨_, rfl⟩
  rw [← hgd] at lw ⊢
  have HGE : Hid (w.heap.size ≤ g) := Lib.hid (by omega)
  have hbk : Bk w3 g 3 (ints (dgB ns i ns.length)) := by
    have e : ints (dgB ns i ns.length) = List.replicate ns.length (.int .i64 0) := by
      unfold dgB ints
      rw [← dg_len ns i, List.drop_length, List.append_nil, List.map_replicate, dg_len]
      rfl
    rw [e]; exact lw.1
  have HBK0 := Lib.hid hbk
  have HB30 := Lib.hid (hgd ▸ hB3 : Below g w w3)
  clear lw t3 hB3 hbk hgd
  go_wp2_with fail
  go_loopg [1, 6] ns.length (fun k x s wr => ∃ m : Nat, k = m ∧ m ≤ ns.length ∧ x = .int .i64 (i / prodL (ns.drop m) : Nat) ∧ s = .int .i64 ((m : Int) - 1) ∧ Hid (Bk wr g 3 (ints (dgB ns i m))) ∧ Hid (Below g w wr))
  case atStart => exact ⟨ns.length, rfl, Nat.le_refl _, by rw [List.drop_length]; show _ = Value.int .i64 ((i / 1 : Nat) : Int); rw [Nat.div_one], rfl, HBK0, HB30⟩
  case round =>
    obtain ⟨m, hk, hmn, rfl, rfl, HBK, HB⟩ := hrel
    have HK := Lib.hid hk
    clear hk
    cases m with
    | zero =>
      have h0 := HBK.out
      have e0 : dgB ns i 0 = dgL ns i := rfl
      rw [e0] at h0
      have HB0 := Lib.hid h0
      clear h0 e0
      go_wp2_with fail
      go_ret
      exact ⟨g, rfl, HGE.out, HB0.out, HB.out.mono HGE.out⟩
    | succ m =>
      obtain ⟨b1, p1, rfl, a0⟩ := HI.out.at (c := m) (by rw [zs_len]; exact hmn)
      have hb1g : b1 < g := Nat.lt_of_lt_of_le (cell_lt2 a0) HGE.out
      have a1 := (HB.out.cell (p := ⟨b1, p1 + m, none⟩) hb1g).trans a0
      rw [zs_get] at a1
      clear a0
      have hx0 := HP.out _ (getD_mem hmn)
      have HD := Lib.hid (div_step (i := i) hmn)
      have HS := Lib.hid (dgB_set (i := i) hmn)
      obtain ⟨x, hx⟩ : ∃ x, x = ns.getD m 0 := ⟨_, rfl⟩
      obtain ⟨q, hq⟩ : ∃ q, q = i / prodL (ns.drop (m + 1)) := ⟨_, rfl⟩
      have hqi : q ≤ i := by rw [hq]; exact Nat.div_le_self _ _
      rw [← hx] at a1 hx0 HD HS
      rw [← hq] at HD HS ⊢
      clear hx hq
      have fz := HBK.out.frozen m
      have cz := HBK.out.cell m (ints_get (by rw [dgB_len hmn]; exact hmn))
      have a2 := fun v => (((Below.refl g wr).setCell (p := ⟨g, m, none⟩) (Nat.le_refl g) v).cell (p := ⟨b1, p1 + m, none⟩) hb1g).trans a1
      have ed : wrap64 ((q : Int) / (x : Int)) = ((q / x : Nat) : Int) := by
        have h1 := Nat.div_le_self q x
        rw [← Int.natCast_ediv]
        generalize q / x = y at h1 ⊢
        unfold wrap64
        omega
      have em : (q : Int) % (x : Int) = ((q % x : Nat) : Int) := (Int.natCast_emod q x).symm
      have hnew : Bk (wr.setCell ⟨g, m, none⟩ (.int .i64 ((q : Int) % (x : Int)))) g 3 (ints (dgB ns i m)) := by
        have h1 := HBK.out.set_ m (.int .i64 ((q : Int) % (x : Int)))
        rw [em] at h1 ⊢
        rw [ints_set, HS.out] at h1
        exact h1
      have HNEW := Lib.hid hnew
      have HED := Lib.hid ed
      clear ed em hnew
      go_wp2_with fail
      go_roundg (gk - 1)
      case measure => have := HK.out; omega
      case rel => exact ⟨m, by have := HK.out; omega, by omega, by rw [HED.out, HD.out], rfl, HNEW, Lib.hid (HB.out.setCell (p := ⟨g, m, none⟩) (Nat.le_refl g) _)⟩
theorem nd_zs (l : List Nat) : zs l = l.map fun (x : Nat) => (x : Int) := rfl
theorem row_lst {w : World} {o : Nat → Nat} {L : Nat} {v : Value} {l : List Nat} (h : Row w o L v (zs l)) : Lst w v (zs l) := h.lst
/-- the places of one more axis, up to the t-th place and j of its cells -/
def witP (n l h : Nat) (out : List Nat) (t j : Nat) : List Nat := ((out.take t).flatMap fun p => (List.range' l (h - l)).map fun a => p * n + a) ++ (List.range' l j).map fun a => out.getD t 0 * n + a
theorem witP_zero (n l h : Nat) (out : List Nat) : witP n l h out 0 0 = [] := rfl
theorem witP_next {n l h : Nat} {out : List Nat} {t : Nat} (ht : t < out.length) : witP n l h out t (h - l) = witP n l h out (t + 1) 0 := by
  unfold witP
  rw [List.take_add_one, List.getElem?_eq_getElem ht, List.flatMap_append, List.getD_eq_getElem?_getD, List.getElem?_eq_getElem ht]
  simp
theorem witP_one {n l h : Nat} {out : List Nat} {t j : Nat} : witP n l h out t (j + 1) = witP n l h out t j ++ [out.getD t 0 * n + (l + j)] := by
  unfold witP
  rw [List.range'_1_concat, List.map_append, List.append_assoc]
  rfl
theorem witP_all {n l h : Nat} (out : List Nat) : witP n l h out out.length 0 = out.flatMap fun p => (List.range' l (h - l)).map fun a => p * n + a := by
  unfold witP
  rw [List.take_length]
  simp
/-- the places up to the m-th axis -/
def witK (ns lo hi : List Nat) (m : Nat) : List Nat := witL (ns.take m) (lo.take m) (hi.take m) [0]
theorem witL_snoc : ∀ {ns lo hi : List Nat} (n l h : Nat) (out : List Nat), ns.length = lo.length → lo.length = hi.length → witL (ns ++ [n]) (lo ++ [l]) (hi ++ [h]) out = (witL ns lo hi out).flatMap fun p => (List.range' l (h - l)).map fun a => p * n + a
  | [], [], [], n, l, h, out, _, _ => rfl
  | x :: ns, y :: lo, z :: hi, n, l, h, out, h1, h2 => witL_snoc (ns := ns) (lo := lo) (hi := hi) n l h _ (by simpa using h1) (by simpa using h2)
  | [], _ :: _, _, _, _, _, _, h1, _ => by cases h1
  | _ :: _, [], _, _, _, _, _, h1, _ => by cases h1
  | [], [], _ :: _, _, _, _, _, _, h2 => by cases h2
  | _ :: _, _ :: _, [], _, _, _, _, _, h2 => by cases h2
theorem witK_succ {ns lo hi : List Nat} {m : Nat} (h1 : ns.length = lo.length) (h2 : lo.length = hi.length) (hm : m < ns.length) : witK ns lo hi (m + 1) = (witK ns lo hi m).flatMap fun p => (List.range' (lo.getD m 0) (hi.getD m 0 - lo.getD m 0)).map fun a => p * ns.getD m 0 + a := by
  unfold witK
  rw [take_getB hm 0, take_getB (by omega) 0, take_getB (by omega) 0]
  exact witL_snoc _ _ _ _ (by rw [List.length_take, List.length_take]; omega) (by rw [List.length_take, List.length_take]; omega)
theorem witK_all {ns lo hi : List Nat} (h1 : ns.length = lo.length) (h2 : lo.length = hi.length) : witK ns lo hi ns.length = witL ns lo hi [0] := by
  unfold witK
  rw [List.take_length, h1, List.take_length, h2, List.take_length]
theorem lts_take : ∀ {x y : List Nat} (m : Nat), Lts x y → Lts (x.take m) (y.take m)
  | [], [], m, _ => by simp [Lts]
  | a :: x, b :: y, 0, _ => trivial
  | a :: x, b :: y, m + 1, h => ⟨h.1, lts_take m h.2⟩
  | [], _ :: _, _, h => h.elim
  | _ :: _, [], _, h => h.elim
theorem les_take : ∀ {x y : List Nat} (m : Nat), Les x y → Les (x.take m) (y.take m)
  | [], [], m, _ => by simp [Les]
  | a :: x, b :: y, 0, _ => trivial
  | a :: x, b :: y, m + 1, h => ⟨h.1, les_take m h.2⟩
  | [], _ :: _, _, h => h.elim
  | _ :: _, [], _, h => h.elim
theorem Bx.take {ns lo hi : List Nat} (h : Bx ns lo hi) (m : Nat) : Bx (ns.take m) (lo.take m) (hi.take m) := ⟨lts_take m h.1, les_take m h.2⟩
theorem wid_le : ∀ {ns lo hi : List Nat}, Bx ns lo hi → widL lo hi ≤ prodL ns
  | [], [], [], _ => Nat.le_refl _
  | n :: ns, l :: lo, h :: hi, hb => Nat.mul_le_mul (by have := hb.2.1; omega) (wid_le ⟨hb.1.2, hb.2.2⟩)
  | _, [], _ :: _, h => h.1.elim
  | _, _ :: _, [], h => h.1.elim
  | [], _, _ :: _, h => h.2.elim
  | _ :: _, _, [], h => h.2.elim
theorem witK_len {ns lo hi : List Nat} (h : Bx ns lo hi) (hp : 0 < prodL ns) (m : Nat) : (witK ns lo hi m).length ≤ prodL ns := by
  unfold witK
  rw [(h.take m).wid]
  exact Nat.le_trans (wid_le (h.take m)) (take_le hp m)
theorem witK_lt {ns lo hi : List Nat} (h : Bx ns lo hi) {m p : Nat} (hm : p ∈ witK ns lo hi m) : p < prodL (ns.take m) := (h.take m).lt hm
end Go.Proofs.Ytlpoopmjgobnnaa
