/- A function that has gone through ranges over a function leaves: its marks are taken, one by one. -/
import Derived.Test.YtlpoopmjgobnnaaAe
import Derived.RangeFuncLeaves
set_option linter.unusedSimpArgs false
set_option linter.unusedVariables false
namespace Go.Proofs.Ytlpoopmjgobnnaa
open Go.RowKit

def marks (Ds : List Nat) : List Deferred := Ds.map fun D => { target := .collected D, args := #[] }
theorem leaves_marks {F : Fence} {n : Nat} {P : Program} {fn : Func} {tmps : Array Value} {R : Ending → World → Prop} {u : FrameMode} {B : Nat} (hu : u ≠ .run) : ∀ (Ds : List Nat) (w : World), Ds.Nodup → (∀ D ∈ Ds, w.heap[D]? = some (.deferred (some [])) ∧ B ≤ D) → B ≤ w.heap.size → (∀ W', Below B w W' → LeavesIn F n P fn tmps R [] u W') → LeavesInM F n P fn tmps R (marks Ds) u w
  | [], w, _, _, _, h => h w (Below.refl _ _)
  | D :: Ds, w, hn, hd, hb, h => by
    rw [List.nodup_cons] at hn
    have h1 := hd D (List.mem_cons_self ..)
    refine ⟨hu, .inl ⟨D, _, rfl, run_takeDeferred h1.1, leaves_marks hu Ds _ hn.2 (fun D' h' => ?_) ?_ fun W' hW => h W' ((below_putObj w D _ h1.2 hb).trans hW)⟩⟩
    · have h2 := hd D' (List.mem_cons_of_mem _ h')
      exact ⟨(World.putObj_heap_other (fun e => hn.1 (by rw [← e]; exact h'))).trans h2.1, h2.2⟩
    · exact Nat.le_trans hb (below_putObj w D _ h1.2 hb).size
end Go.Proofs.Ytlpoopmjgobnnaa
