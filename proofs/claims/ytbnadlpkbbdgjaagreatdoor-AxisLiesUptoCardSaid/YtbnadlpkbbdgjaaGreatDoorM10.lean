/- The contracts of the functions that the laws reach, part 10: what each returns and what becomes of memory. -/
import Derived.BigQuiet
import Derived.StillTailTactics
import Derived.Test.YtbnadlpkbbdgjaaGreatDoorM9
set_option linter.unusedSimpArgs false
set_option linter.unusedVariables false


namespace Go.Proofs.YtbnadlpkbbdgjaaGreatDoor
open Go.RowKit

theorem vg_get {l : List VD} {t : Nat} (h : t < l.length) : vg l t = l[t]:=by
 unfold vg
 rw [List.getD_eq_getElem?_getD,List.getElem?_eq_getElem h];rfl
end Go.Proofs.YtbnadlpkbbdgjaaGreatDoor



namespace Go.Proofs.YtbnadlpkbbdgjaaGreatDoor
open Go.RowKit

/-- the two boxes' slices -/
def SMem (w wx : World) (A : Option Addr) (n C : Nat) (A2 : Option Addr) (n2 C2 : Nat) (A3 : Option Addr) (n3 C3 : Nat) (A4 : Option Addr) (n4 C4 : Nat) : Prop :=
 wx.cell? ⟨w.heap.size,8,none⟩ = some (.slice A n C) ∧ wx.cell? ⟨w.heap.size,9,none⟩ = some (.slice A2 n2 C2) ∧ wx.cell? ⟨w.heap.size + 1,8,none⟩ = some (.slice A3 n3 C3) ∧ wx.cell? ⟨w.heap.size + 1,9,none⟩ = some (.slice A4 n4 C4) ∧ w.heap.size + 1 < wx.heap.size ∧ Below w.heap.size w wx
section
variable {w wx w' : World} {A A2 A3 A4 : Option Addr} {n C n2 C2 n3 C3 n4 C4 : Nat}
theorem SMem.drewN (h : SMem w wx A n C A2 n2 C2 A3 n3 C3 A4 n4 C4) (k : Nat) : SMem w (wx.drewN k) A n C A2 n2 C2 A3 n3 C3 A4 n4 C4:=⟨h.1,h.2.1,h.2.2.1,h.2.2.2.1,h.2.2.2.2.1,below_drewN h.2.2.2.2.2 k⟩
theorem SMem.below (h : SMem w wx A n C A2 n2 C2 A3 n3 C3 A4 n4 C4) (hb : Below wx.heap.size wx w') : SMem w w' A n C A2 n2 C2 A3 n3 C3 A4 n4 C4:=by
 obtain ⟨h1,h2,h3,h4,h5,h6⟩:=h
 exact ⟨(hb.cell (p:=⟨w.heap.size,8,none⟩) (by show w.heap.size < _;omega)).trans h1,(hb.cell (p:=⟨w.heap.size,9,none⟩) (by show w.heap.size < _;omega)).trans h2,(hb.cell (p:=⟨w.heap.size + 1,8,none⟩) h5).trans h3,(hb.cell (p:=⟨w.heap.size + 1,9,none⟩) h5).trans h4,Nat.lt_of_lt_of_le h5 hb.size,h6.trans (hb.mono (by omega))⟩
end
theorem VR.up : ∀ (n k : Nat) {w : World} {L N : Value} {x : VD},VR n w L N x → VR (n + k) w L N x
 | 0,_,_,_,_,_,h => h.elim
 | n + 1,k,_,_,_,_,h => by
  rw [show n + 1 + k = (n + k) + 1 by omega]
  exact ⟨h.1,h.2.1.imp (fun _ _ _ q => VR.up n k q),h.2.2⟩
end Go.Proofs.YtbnadlpkbbdgjaaGreatDoor

