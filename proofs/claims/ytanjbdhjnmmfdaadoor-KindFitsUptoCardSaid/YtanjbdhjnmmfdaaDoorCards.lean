/-
  DERIVED. GIVEN WITH THE SEED: THE CARDS: each row of YtanjbdhjnmmfdaaDoorRows.lean that lists a variable, with what it lists TIED to the program's text (the seventh form; the later family's looks); each row that meets fmt, with fmt's text TOLD by the authors' own Lean function (tested against real Go, not proved from fmt's source: count such statements apart). THE CARD IS WHAT COUNTS. Prove the row's statement (the work); the ties are given (YtanjbdhjnmmfdaaDoorTie.lean); close each card by the builder's one call (the guide's Derived/Test/ToyasCard.lean, 'card_holds'). Laid BY PROGRAM, IN A SANDBOX (cutbox-door.mjs). By AI agents, Wed Nov 11 2026. No macro, syntax, notation, axiom, sorry.
-/
import Derived.Test.YtanjbdhjnmmfdaaDoorRows
import GoSem.ClaimSeven
namespace Go.Proofs.YtanjbdhjnmmfdaaDoor
namespace Rows

/-- THE TIED CARD OF 'tarifflaw08.KindFits'. -/
def kindFitsCard : Claim7 := { stood := { row := kindFitsRow, standIns := [], harness := (true, "78305f352c87cc152ff122b6c9841fd1d959dea5811f20207afca26dbe33049f"), looks := false }, kinds := [], alts := [], laidByText := true, laidKinds := [.data, .pinned], laidTests := true, laidLooks := .later }
def KindFitsCardSaid : Prop := Claim7.holds Tryd.pinned (.plain (OpenSpec.ofChange kindFitsSpec)) kindFitsCard

/-- THE TIED CARD OF 'tarifflaw08.KindOrders'. -/
def kindOrdersCard : Claim7 := { stood := { row := kindOrdersRow, standIns := [], harness := (true, "78305f352c87cc152ff122b6c9841fd1d959dea5811f20207afca26dbe33049f"), looks := false }, kinds := [], alts := [], laidByText := true, laidKinds := [.data, .pinned], laidTests := true, laidLooks := .later }
def KindOrdersCardSaid : Prop := Claim7.holds Tryd.pinned (.plain (OpenSpec.ofChange kindOrdersSpec)) kindOrdersCard

/-- THE SECOND FORM's CARD OF 'tarifflaw08.KindFits'. -/
def kindFitsUptoCard : Claim7 := { stood := { row := kindFitsUptoRow, standIns := [], harness := (true, "78305f352c87cc152ff122b6c9841fd1d959dea5811f20207afca26dbe33049f"), looks := false }, kinds := [], alts := [], laidByText := true, laidKinds := [.data, .pinned], laidTests := true, laidLooks := .later }
def KindFitsUptoCardSaid : Prop := Claim7.holds Tryd.pinned (.plain (OpenSpec.upto kindFitsSpec)) kindFitsUptoCard

/-- THE SECOND FORM's CARD OF 'tarifflaw08.KindOrders'. -/
def kindOrdersUptoCard : Claim7 := { stood := { row := kindOrdersUptoRow, standIns := [], harness := (true, "78305f352c87cc152ff122b6c9841fd1d959dea5811f20207afca26dbe33049f"), looks := false }, kinds := [], alts := [], laidByText := true, laidKinds := [.data, .pinned], laidTests := true, laidLooks := .later }
def KindOrdersUptoCardSaid : Prop := Claim7.holds Tryd.pinned (.plain (OpenSpec.upto kindOrdersSpec)) kindOrdersUptoCard
end Rows
end Go.Proofs.YtanjbdhjnmmfdaaDoor
