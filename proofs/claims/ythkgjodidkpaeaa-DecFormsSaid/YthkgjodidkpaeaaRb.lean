/- The reference: half of a number, told as digits. -/
import Derived.Test.YthkgjodidkpaeaaRa
set_option linter.unusedSimpArgs false
set_option linter.unusedVariables false
namespace Go.Proofs.Ythkgjodidkpaeaa
open Go.RowKit

def RetHalf (n : Nat) (w : World) (e : Ending) (w' : World) : Prop := ∃ v, e = .returned (.tuple #[v, .int .i64 ((n % 2 : Nat) : Int)]) ∧ Dg w' v (n / 2) ∧ Below w.heap.size w w'
set_option maxHeartbeats 1000000 in
theorem half_any (N : Nat) (v : Value) (w : World) (hv : Dg w v N) (hN : Small N) :
    Calls Try.prog 103 #[v] w (RetHalf N w) := by
  obtain ⟨xs, ⟨A, c, rfl, hc, hs⟩, hd⟩ := hv
  have hlen := pow_big hN hd
  have HD := Lib.hid hd
  have HS := Lib.hid hs
  have hmk := fun W => make_ints xs.length (by omega) W
  clear hd hs hN
  go_enter Try.func103, Try.ntmps103
  go_wp2_with fail
  clear hmk
  go_loopg [5, 6] xs.length (fun k l i wr => ∃ (ll : Int) (ds : List Int), k ≤ xs.length ∧ i = .int .i64 ((k : Int) - 1) ∧ l = .int .i64 ll ∧ 0 ≤ ll ∧ ll ≤ 1 ∧
    Bk wr w.heap.size 3 (ds.map (Value.int .i64)) ∧ ds.length = xs.length ∧ Digs ds ∧ 2 * dval (ds.drop k) + ll = dval (xs.drop k) ∧ w.heap.size < wr.heap.size ∧ Below w.heap.size w wr)
  case atStart =>
    refine ⟨0, List.replicate xs.length 0, Nat.le_refl _, rfl, rfl, by decide, by decide, Bk.new_ rfl, by simp, Digs.zeros _, ?_, by go_size, by (repeat' (first | (with_reducible exact Below.refl _ _) | (with_reducible assumption) | (with_reducible refine Below.drew ?_) | (with_reducible refine below_drewN ?_ _) | ((with_reducible refine Below.alloc ?_ ?_ _); rotate_left; focus (go_size; done)) | ((with_reducible refine Below.setCell ?_ ?_ _); rotate_left; focus (go_size; done)) | ((with_reducible refine Below.trans ?_ (Below.mono (by with_reducible assumption) ?_)); rotate_left; focus (go_size; done))))⟩
    rw [List.drop_of_length_le (by simp), List.drop_of_length_le (Nat.le_refl _)]
    rfl
  case round =>
    obtain ⟨ll, ds, hk, rfl, rfl, hl0, hl1, hbk, hdl, hdd, hval, hsz, hbel⟩ := hrel
    have HB := Lib.hid hbk
    have HL := Lib.hid hdl
    have HDD := Lib.hid hdd
    have HV := Lib.hid hval
    clear hbk hdl hdd hval
    by_cases h0 : gk = 0
    · subst h0
      have hm : ¬ (0 : Int) ≤ ((0 : Nat) : Int) - 1 := by omega
      go_wp2_with fail
      refine (cut_any ds _ _ (IsSl.of_bk HB.out HL.out (Nat.le_refl _)) HDD.out (by rw [HL.out]; omega)).mono ?_
      rintro _ w2 ⟨v2, rfl, hdg, hb2⟩
      go_wp2_with fail
      go_ret2
      have hv := HV.out
      rw [List.drop_zero, List.drop_zero, HD.out.2.2] at hv
      have h1 := (dval_bd HDD.out).1
      have e1 : (dval ds).toNat = N / 2 := by omega
      have e2 : ll = ((N % 2 : Nat) : Int) := by omega
      rw [e1] at hdg
      refine ⟨v2, ?_, hdg, by (repeat' (first | (with_reducible exact Below.refl _ _) | (with_reducible assumption) | (with_reducible refine Below.drew ?_) | (with_reducible refine below_drewN ?_ _) | ((with_reducible refine Below.alloc ?_ ?_ _); rotate_left; focus (go_size; done)) | ((with_reducible refine Below.setCell ?_ ?_ _); rotate_left; focus (go_size; done)) | ((with_reducible refine Below.trans ?_ (Below.mono (by with_reducible assumption) ?_)); rotate_left; focus (go_size; done))))⟩
      rw [← e2]
      rfl
    · obtain ⟨m, rfl⟩ : ∃ m, gk = m + 1 := ⟨gk - 1, by omega⟩
      obtain ⟨g, o, rfl, hg, hcell⟩ := HS.out.at_ (k := m) (by omega)
      have hcell2 := (hbel.cell (p := ⟨g, o + m, none⟩) hg).trans hcell
      have hx := HD.out.get m
      obtain ⟨d, hd⟩ : ∃ d, d = xs.getD m 0 := ⟨_, rfl⟩
      rw [← hd] at hcell2 hx
      obtain ⟨hx0, hx9⟩ := hx
      have HE := Lib.hid hd
      have hp : (0 : Int) < ((m + 1 : Nat) : Int) := by omega
      have hx : ((m + 1 : Nat) : Int) - 1 = (m : Int) := by omega
      have hmd : m < ds.length := by have := HL.out; omega
      have hst : wr.cell? ⟨w.heap.size, m, none⟩ = some (.int .i64 (ds.getD m 0)) := HB.out.cell _ (by rw [List.getElem?_map, List.getElem?_eq_getElem hmd, getD_lt _ _ hmd]; rfl)
      have hfz := HB.out.frozen m
      clear h0 hd hcell
      go_wp2_with fail
      go_roundg m
      case measure => omega
      case rel =>
        refine ⟨(10 * ll + d) % 2, ds.set m ((10 * ll + d) / 2), by omega, rfl, rfl, by omega, by omega, ?_, by rw [List.length_set]; exact HL.out, HDD.out.set_ m (by omega) (by omega), ?_, by go_size, by (repeat' (first | (with_reducible exact Below.refl _ _) | (with_reducible assumption) | (with_reducible refine Below.drew ?_) | (with_reducible refine below_drewN ?_ _) | ((with_reducible refine Below.alloc ?_ ?_ _); rotate_left; focus (go_size; done)) | ((with_reducible refine Below.setCell ?_ ?_ _); rotate_left; focus (go_size; done)) | ((with_reducible refine Below.trans ?_ (Below.mono (by with_reducible assumption) ?_)); rotate_left; focus (go_size; done))))⟩
        · have := HB.out.set_ m (.int .i64 ((10 * ll + d) / 2))
          rwa [← List.map_set] at this
        · rw [drop_set _ _ _ hmd, dval_drop xs m (by omega), ← HE.out]
          have hv := HV.out
          show 2 * ((10 * ll + d) / 2 + 10 * dval (ds.drop (m + 1))) + (10 * ll + d) % 2 = _
          omega
end Go.Proofs.Ythkgjodidkpaeaa
