/- How many decimal digits a number has, by the program. -/
import Derived.Test.YtnjiibeomailhaaTx
set_option linter.unusedSimpArgs false
set_option linter.unusedVariables false
namespace Go.Proofs.Ytnjiibeomailhaa
open Go.RowKit
theorem txt_size (N L : Nat) : (txt N L).size = L := by
  show (txl N L).toArray.size = L
  rw [List.size_toArray, txl_length]
set_option maxHeartbeats 1000000 in
theorem digits_any (N L : Nat) (hN : N < 2 ^ 128) (hL : IsNd N L) (hL39 : L ≤ 39) (w : World) : Calls Try.prog 33 #[.agg #[.int .u64 (wd N 1), .int .u64 (wd N 0)]] w fun e w' => e = .returned (.int .i64 L) ∧ Below w.heap.size w w' := by
  have HT := Lib.hid (fun W => text_any N L hN hL hL39 W)
  have hz := txt_size N L
  obtain ⟨s, hs⟩ : ∃ s, s = txt N L := ⟨_, rfl⟩
  rw [← hs] at HT hz
  have HZ := Lib.hid hz
  have hz1 : s.size ≤ 39 := by omega
  clear hN hL hs hz
  go_enter Try.func33, Try.ntmps33
  go_wp2_with fail
  refine (HT.out _).mono ?_
  rintro _ w1 ⟨rfl, hb1⟩; have hb1s := hb1.size; (try simp only [World.size_alloc, World.size_setCell, World.size_drew, World.heap_drewN] at hb1s); obtain ⟨hb1c, hb1f⟩ := bcell hb1; (try have : w.heap.size < w1.heap.size := by omega); (try have : w.heap.size + 1 < w1.heap.size := by omega); (try have : w.heap.size + 1 + 1 < w1.heap.size := by omega); (try have : w.heap.size + 1 + 1 + 1 < w1.heap.size := by omega)
  go_wp2_with fail
  go_ret
  exact ⟨ret_int (by rw [HZ.out]), by (repeat' (first | (with_reducible exact Below.refl _ _) | (with_reducible assumption) | (with_reducible refine Below.drew ?_) | (with_reducible refine below_drewN ?_ _) | ((with_reducible refine Below.alloc ?_ ?_ _); rotate_left; focus (go_size; done)) | ((with_reducible refine Below.setCell ?_ ?_ _); rotate_left; focus (go_size; done)) | ((with_reducible refine Below.trans ?_ (Below.mono (by with_reducible assumption) ?_)); rotate_left; focus (go_size; done))))⟩
end Go.Proofs.Ytnjiibeomailhaa
