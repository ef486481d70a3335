/- Sweep: the document's within: the walk. -/
import Derived.Test.YtlpoopmjgobnnaaAj
import Derived.Deep.RegionLaw
set_option linter.unusedSimpArgs false
set_option linter.unusedVariables false
namespace Go.Proofs.Ytlpoopmjgobnnaa
open Go.RowKit

theorem witP_len {n l h : Nat} {out : List Nat} {t j : Nat} (ht : t ≤ out.length) : (witP n l h out t j).length = t * (h - l) + j := by
  unfold witP
  rw [List.length_append, List.length_map, List.length_range']
  congr 1
  have : ∀ (o : List Nat), (o.flatMap fun p => (List.range' l (h - l)).map fun a => p * n + a).length = o.length * (h - l) := by
    intro o
    induction o with
    | nil => simp
    | cons a o ih => rw [List.flatMap_cons, List.length_append, ih, List.length_map, List.length_range', List.length_cons, Nat.succ_mul, Nat.add_comm]
  rw [this, List.length_take, Nat.min_eq_left ht]
theorem ob_row {s : Nat} (w : World) : Row w (ob s) 1 (.slice none 0 0) (zs []) := Row.nil _ _ _
theorem row_is {w : World} {o : Nat → Nat} {L : Nat} {v : Value} {l : List Nat} (h : Row w o L v (zs l)) : ∃ A C, v = .slice A l.length C := by
  obtain ⟨A, C, h1, _⟩ := h.lst.is
  rw [zs_len] at h1
  exact ⟨A, C, h1⟩
theorem row_mono {w : World} {B B' : Nat} {v : Value} {xs : List Int} (h : Row w (ob B) 1 v xs) (hB : B' ≤ B) : Row w (ob B') 1 v xs :=
  ⟨h.1, fun g hg => by
    have := h.2 g hg
    rcases Nat.lt_or_ge g B with h' | h'
    · rw [ob_low h'] at this; cases this
    · exact ob_up (by omega)⟩
def WitPost (l : List Nat) (w : World) (e : Ending) (w' : World) : Prop := ∃ r, e = .returned r ∧ Below w.heap.size w w' ∧ Row w' (ob w.heap.size) 1 r (zs l)
set_option maxHeartbeats 2000000 in
theorem within_any (ns lo hi : List Nat) (v u x : Value) (w : World) (hb : Bx ns lo hi) (hp : 0 < prodL ns) (h4 : prodL ns ≤ 4000) (hn : ns.length ≤ 1000) (h : Lst w v (zs ns)) (h1 : Lst w u (zs lo)) (h2 : Lst w x (zs hi)) : Calls Try.prog 32 #[v, u, x] w (WitPost (witL ns lo hi [0]) w) := by
  have HN := Lib.hid h
  have HL := Lib.hid h1
  have HH := Lib.hid h2
  have HB := Lib.hid hb
  have H4 := Lib.hid (And.intro hp h4)
  obtain ⟨A, C, rfl, ha, _⟩ := h
  obtain ⟨A1, C1, rfl, ha1, _⟩ := h1
  obtain ⟨A2, C2, rfl, ha2, _⟩ := h2
  obtain ⟨e1, e2⟩ := hb.lens
  rw [zs_len] at ha ha1 ha2
  rw [zs_len, zs_len, zs_len, e1, e2]
  have HE := Lib.hid (And.intro e1 e2)
  have HNN := Lib.hid hn
  unfold WitPost
  clear hb hp h4 e1 e2
  go_enter Try.func32, Try.ntmps32
  go_wp2_with fail
  obtain ⟨w0, hw0⟩ : ∃ W, W = w.alloc (.cells #[.int .i64 0] 3) := ⟨_, rfl⟩
  have HB0 : Hid (Below w.heap.size w w0) := Lib.hid (by rw [hw0]; exact (Below.refl _ _).alloc (Nat.le_refl _) _)
  have HL0 : Hid (Row w0 (ob w.heap.size) 1 (.slice (some ⟨w.heap.size, 0, none⟩) 1 1) (zs (witK ns lo hi 0))) := Lib.hid (by
    rw [hw0]
    exact Row.of_block (xs := [0]) (cap := 1) ⟨Bk.new w 3 (ints [0]), ob_up (Nat.le_refl _)⟩ (Nat.le_refl _) (by decide) rfl rfl)
  rw [← hw0]
  generalize (Value.slice (some ⟨w.heap.size, 0, none⟩) 1 1) = vo at HL0 ⊢
  clear hw0
  go_loopg [7, 8] ns.length (fun k o i wr => ∃ m : Nat, k + m = ns.length ∧ i = .int .i64 m ∧ Hid (Row wr (ob w.heap.size) 1 o (zs (witK ns lo hi m))) ∧ Hid (Below w.heap.size w wr))
  case atStart => exact ⟨0, by omega, rfl, HL0, HB0⟩
  case round =>
    obtain ⟨m, hk, rfl, HO, HBW⟩ := hrel
    have HK := Lib.hid hk
    have hmn : m ≤ ns.length := by omega
    clear hk HL0 HB0
    obtain ⟨A7, C7, rfl, hm7, -⟩ := HO.out.lst
    rw [zs_len] at hm7 ⊢
    by_cases hlt : m < ns.length
    · have hll : m < lo.length := by rw [HE.out.1, HE.out.2]; exact hlt
      have hhl : m < hi.length := by rw [HE.out.2]; exact hlt
      have hlh := (lts_iff.1 HB.out.1).2 m hll
      have hhn := (les_iff.1 HB.out.2).2 m hhl
      have HSU := Lib.hid (witK_succ (by rw [HE.out.1, HE.out.2]) HE.out.1 hlt)
      have hle1 := witK_len HB.out H4.out.1 m
      have hle2 := witK_len HB.out H4.out.1 (m + 1)
      have HPL : Hid (∀ p ∈ witK ns lo hi m, p * ns.getD m 0 + ns.getD m 0 ≤ 4000) := Lib.hid (fun p hp => by
        have h5 := witK_lt HB.out hp
        have h6 := prod_snoc hlt
        have h7 := take_le H4.out.1 (m + 1)
        have h8 : (p + 1) * ns.getD m 0 ≤ prodL (ns.take m) * ns.getD m 0 := Nat.mul_le_mul_right _ h5
        rw [Nat.succ_mul] at h8
        have := H4.out.2
        omega)
      have hn4 : ns.getD m 0 ≤ 4000 := Nat.le_trans (prod_ge (getD_mem hlt) H4.out.1) H4.out.2
      obtain ⟨b1, p1, rfl, a1⟩ := HN.out.at (c := m) (by rw [zs_len]; exact hlt)
      obtain ⟨b2, p2, rfl, a2⟩ := HL.out.at (c := m) (by rw [zs_len]; exact hll)
      obtain ⟨b3, p3, rfl, a3⟩ := HH.out.at (c := m) (by rw [zs_len]; exact hhl)
      rw [zs_get] at a1 a2 a3
      have HC := Lib.hid (And.intro a1 (And.intro a2 a3))
      have HCL := Lib.hid (And.intro (cell_lt2 a1) (And.intro (cell_lt2 a2) (cell_lt2 a3)))
      obtain ⟨n, hnd⟩ : ∃ n, n = ns.getD m 0 := ⟨_, rfl⟩
      obtain ⟨l, hld⟩ : ∃ l, l = lo.getD m 0 := ⟨_, rfl⟩
      obtain ⟨g, hgd⟩ : ∃ g, g = hi.getD m 0 := ⟨_, rfl⟩
      obtain ⟨L, hLd⟩ : ∃ L, L = witK ns lo hi m := ⟨_, rfl⟩
      rw [← hnd] at HSU HPL HC hhn hn4
      rw [← hld] at HSU HC hlh
      rw [← hgd] at HSU HC hlh hhn
      rw [← hLd] at HSU HPL HO hm7 hle1 ⊢
      have hlen2 : L.length * (g - l) ≤ 4000 := by
        have h5 : (witP n l g L L.length 0).length = L.length * (g - l) + 0 := witP_len (Nat.le_refl _)
        rw [witP_all, ← HSU.out] at h5
        have := H4.out.2
        omega
      have hL4 : L.length ≤ 4000 := by have := H4.out.2; omega
      have HNX : Hid (witP n l g L L.length 0 = witK ns lo hi (m + 1)) := Lib.hid (by rw [witP_all, HSU.out])
      obtain ⟨w1, hw1⟩ : ∃ x, x = wr := ⟨_, rfl⟩
      subst hw1
      obtain ⟨go, hgo⟩ : ∃ x, x = gk := ⟨_, rfl⟩
      subst hgo
      clear hnd hld hgd hLd hle1 hle2 hll hhl a1 a2 a3 HSU
      go_wp2_with fail
      go_loopg [9, 10] L.length (fun k x i wr => ∃ t : Nat, k + t = L.length ∧ i = .int .i64 t ∧ Hid (Row wr (ob w1.heap.size) 1 x (zs (witP n l g L t 0))) ∧ Hid (Below w1.heap.size w1 wr))
      case atStart => exact ⟨0, by omega, rfl, Lib.hid (ob_row _), Lib.hid (Below.refl _ _)⟩
      case round =>
        obtain ⟨t, hk, rfl, HR, HB1⟩ := hrel
        have HK1 := Lib.hid hk
        have htn : t ≤ L.length := by omega
        clear hk
        obtain ⟨A9, C9, rfl⟩ := row_is HR.out
        by_cases hlt2 : t < L.length
        · have a2 := ((HBW.out.trans (HB1.out.mono HBW.out.size)).cell (p := ⟨b2, p2 + m, none⟩) HCL.out.2.1).trans HC.out.2.1
          have HNT := Lib.hid (witP_next (n := n) (l := l) (h := g) hlt2)
          obtain ⟨b7, p7, rfl, a7⟩ := HO.out.lst.at (c := t) (by rw [zs_len]; exact hlt2)
          rw [zs_get] at a7
          have HC7 := Lib.hid a7
          have HC7L := Lib.hid (cell_lt2 a7)
          have hpl := HPL.out _ (getD_mem hlt2)
          obtain ⟨q, hqd⟩ : ∃ q, q = L.getD t 0 := ⟨_, rfl⟩
          have HQ := Lib.hid hqd
          rw [← hqd] at HC7 hpl
          have hqn : q * n ≤ 4000 := by omega
          obtain ⟨w2, hw2⟩ : ∃ x, x = wr := ⟨_, rfl⟩
          subst hw2
          obtain ⟨go2, hgo2⟩ : ∃ x, x = gk := ⟨_, rfl⟩
          subst hgo2
          clear a7 hqd
          go_wp2_with fail
          clear a2
          go_loopg [9, 11] (g - l) (fun k x i wr => ∃ j : Nat, k + j = g - l ∧ i = .int .i64 ((l + j : Nat) : Int) ∧ Hid (Row wr (ob w1.heap.size) 1 x (zs (witP n l g L t j))) ∧ Hid (Below w1.heap.size w1 wr))
          case atStart => exact ⟨0, by omega, rfl, HR, HB1⟩
          case round =>
            obtain ⟨j, hk, rfl, HR2, HB2⟩ := hrel
            have HK2 := Lib.hid hk
            have hjn : j ≤ g - l := by omega
            clear hk
            have HBB := Lib.hid (HBW.out.trans (HB2.out.mono HBW.out.size))
            have a1 := (HBB.out.cell (p := ⟨b1, p1 + m, none⟩) HCL.out.1).trans HC.out.1
            have a3 := (HBB.out.cell (p := ⟨b3, p3 + m, none⟩) HCL.out.2.2).trans HC.out.2.2
            obtain ⟨A6, C6, rfl⟩ := row_is HR2.out
            by_cases hlt3 : j < g - l
            · have a7 := (HB2.out.cell (p := ⟨b7, p7 + t, none⟩) HC7L.out).trans HC7.out
              have hwl := witP_len (n := n) (l := l) (h := g) (j := j) htn
              have hts : t * (g - l) + j ≤ 4000 := by
                have h5 : (t + 1) * (g - l) ≤ L.length * (g - l) := Nat.mul_le_mul_right _ hlt2
                rw [Nat.succ_mul] at h5
                omega
              obtain ⟨y, hy⟩ : ∃ y, y = q * n := ⟨_, rfl⟩
              have hyi : (q : Int) * (n : Int) = (y : Int) := by rw [hy, Int.natCast_mul]
              have hyb : y ≤ 4000 := by rw [hy]; exact hqn
              have HYD := Lib.hid hy
              have hrow := HR2.out
              obtain ⟨X, hX⟩ : ∃ X, X = witP n l g L t j := ⟨_, rfl⟩
              have HX := Lib.hid hX
              rw [← hX] at hrow hwl ⊢
              have hXl : X.length ≤ 4000 := by omega
              clear hy hwl hts hX hpl
              go_wp2_with fail
              have wr1 : IntKind.i64.wrap (y : Int) = (y : Int) := by rw [IntKind.wrap_i64]; omega
              have wr2 : IntKind.i64.wrap ((y : Int) + ((l : Int) + (j : Int))) = ((y + (l + j) : Nat) : Int) := by rw [IntKind.wrap_i64]; omega
              have hXz : (zs X).length ≤ 1000000 := by rw [zs_len]; omega
              go_region_law (refine step_push rfl _ _ 22 rfl Try.underlying22 (ob w1.heap.size) 1 (.slice A6 X.length C6) (zs X) rfl (by first | exact hrow.drew.alloc _ | exact (hrow.alloc _).drew | exact hrow.alloc _) wr.heap.size ((y + (l + j) : Nat) : Int) rfl (by simp) hXz ?_; intro g9 cap9 w9 hr9 ht9 hlt9)
              all_goals (focus
                  rw [ob_re (Nat.le_trans HB2.out.size (by simp))] at hr9 ht9
                  rw [zs_len] at hr9 ⊢
                  have hnew : zs X ++ [((y + (l + j) : Nat) : Int)] = zs (witP n l g L t (j + 1)) := by
                    rw [witP_one, zs_app, ← HX.out, ← HQ.out, ← HYD.out]
                    rfl
                  rw [hnew] at hr9
                  have HR9 := Lib.hid hr9
                  have HB9 := Lib.hid (ob_below (w0 := w1) ht9 (by first | exact (HB2.out.alloc HB2.out.size _).drew | exact HB2.out.drew.alloc HB2.out.size _))
                  clear hr9 ht9 hnew wr1 wr2
                  go_wp2_with fail
                  go_roundg (gk - 1)
                  case measure => have := HK2.out; omega
                  case rel => exact ⟨j + 1, by have := HK2.out; omega, by go_num, HR9, HB9⟩)
            · have e : j = g - l := by omega
              subst e
              have HR3 := HR2.out
              rw [HNT.out] at HR3 ⊢
              have HR4 := Lib.hid HR3
              clear HR3
              go_wp2_with fail
              go_roundg (go2 - 1)
              case measure => have := HK1.out; omega
              case rel => exact ⟨t + 1, by have := HK1.out; omega, by go_num, HR4, HB2⟩
        · have e : t = L.length := by omega
          subst e
          have HR3 := HR.out
          rw [HNX.out] at HR3 ⊢
          have HR4 := Lib.hid (row_mono HR3 HBW.out.size)
          clear HR3
          go_wp2_with fail
          go_roundg (go - 1)
          case measure => have := HK.out; omega
          case rel => exact ⟨m + 1, by have := HK.out; omega, by go_num, HR4, Lib.hid (HBW.out.trans (HB1.out.mono HBW.out.size))⟩
    · have e : m = ns.length := by omega
      subst e
      have hz := HO.out
      rw [witK_all (by rw [HE.out.1, HE.out.2]) HE.out.1] at hz ⊢
      have HZ := Lib.hid hz
      clear hz
      go_wp2_with fail
      go_ret
      exact ⟨_, rfl, HBW.out, by rw [zs_len] at HZ; exact HZ.out⟩
end Go.Proofs.Ytlpoopmjgobnnaa
