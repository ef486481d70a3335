/- What this law reaches beyond the common contracts, part 2. -/
import Derived.BigRegion
import Derived.Deep.DeepCutAuto
import Derived.Test.YtnhmplfonkjfoaaDoorM1
import Derived.Test.YtnhmplfonkjfoaaDoorXXx1
set_option linter.unusedSimpArgs false
set_option linter.unusedVariables false


namespace Go.Proofs.YtnhmplfonkjfoaaDoor
open Go.RowKit

set_option maxRecDepth 100000
theorem wpList_makeL {w : World} {ops : Array Oper} {rest : List Oper} {o : Oper} {a : Act} {Q : Exit → Act → World → Prop} (hg : o.guard = none) (l c : Operand) (t e : TypeId) (hop : o.op = Op.makeSlice t l c)
  (z : Value) (hz : z.cells = #[z]) (bytes : Nat) (ht : Tryd.prog.underlying t = some (.slice e)) (hi : (Tryd.prog.info? e).map (fun i=>(i.zero,i.size,i.bytes)) = some (some z,1,bytes)) (own : Nat → Nat) (lab n : Nat)
  (hl : a.eval l = .int .i64 n) (hc : a.eval c = .int .i64 n) (b2 : bytes * n ≤ 281474976710656) (b3 : n ≤ maxLen)
  (h : ∀ w',Lb w' (relabel own w.heap.size lab) lab w.heap.size e (List.replicate n z) → Turn (fun _=>False) w own w' (relabel own w.heap.size lab) → wpList Tryd.prog ops Q rest (a.put o.dst (.slice (some ⟨w.heap.size,0,none⟩) n n)) w') :
  wpList Tryd.prog ops Q (o :: rest) a w:=by
 obtain ⟨i0,hi0,hz0,hz1,hz2⟩:=info_parts hi
 refine wpList_make_full w hg l c t hop w.heap.size e i0 z 1 ht hi0 hz0 hz1 .i64 .i64 n n n hl hc rfl rfl (by rw [hz2];exact b2) b3 (Nat.le_refl _) fun w' h1 h2=>?_
 refine h w' ⟨?_,relabel_new (Nat.le_refl _)⟩ ⟨h2.os,h2.tape,h2.output,h2.size,fun k hk=>relabel_old hk,fun k hk _=>h2.block k hk (by simp)⟩
 rcases h1.2 with ⟨hn,_⟩ | ⟨g,cap,cur,hv,_,hg',h3,h4,h5,h6⟩
 ·cases hn
 ·injection hv with e1 e2 e3
  injection e1 with e1
  injection e1 with e1
  subst e1 e3
  rw [hz,toList_madeCells_one,Nat.mul_one] at h6
  rw [Nat.mul_one] at h5
  rw [List.take_of_length_le (by rw [Array.length_toList,h5];exact Nat.le_refl _)] at h6
  unfold Bk
  rw [hg',← h6]
end Go.Proofs.YtnhmplfonkjfoaaDoor

