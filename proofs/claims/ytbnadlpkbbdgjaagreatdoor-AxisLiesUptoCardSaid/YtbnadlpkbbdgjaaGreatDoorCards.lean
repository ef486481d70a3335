/-
  DERIVED. GIVEN WITH THE SEED: THE CARDS: each row of YtbnadlpkbbdgjaaGreatDoorRows.lean that lists a variable, with what it lists TIED to the program's text (the seventh form; the later family's looks); each row that meets fmt, with fmt's text TOLD by the authors' own Lean function (tested against real Go, not proved from fmt's source: count such statements apart). THE CARD IS WHAT COUNTS. Prove the row's statement (the work); the ties are given (YtbnadlpkbbdgjaaGreatDoorTie.lean); close each card by the builder's one call (the guide's Derived/Test/ToyasCard.lean, 'card_holds'). Laid BY PROGRAM, IN A SANDBOX (cutbox-door.mjs). By AI agents, Wed Nov 11 2026. No macro, syntax, notation, axiom, sorry.
-/
import Derived.Test.YtbnadlpkbbdgjaaGreatDoorRows
import GoSem.ClaimSeven
namespace Go.Proofs.YtbnadlpkbbdgjaaGreatDoor
namespace Rows

/-- THE TIED CARD OF 'tarifflaw22.AxisCuts'. -/
def axisCutsCard : Claim7 := { stood := { row := axisCutsRow, standIns := [], harness := (true, "cd29b1128a5957308f93a07f8251c89774a2d3d0de04448a08b7ab0461ca58d6"), looks := false }, kinds := [], alts := [], laidByText := true, laidKinds := [.data, .pinned], laidTests := true, laidLooks := .later }
def AxisCutsCardSaid : Prop := Claim7.holds Tryz.pinned (.plain (OpenSpec.ofChange axisCutsSpec)) axisCutsCard

/-- THE TIED CARD OF 'tarifflaw22.AxisLies'. -/
def axisLiesCard : Claim7 := { stood := { row := axisLiesRow, standIns := [], harness := (true, "cd29b1128a5957308f93a07f8251c89774a2d3d0de04448a08b7ab0461ca58d6"), looks := false }, kinds := [], alts := [], laidByText := true, laidKinds := [.data, .pinned], laidTests := true, laidLooks := .later }
def AxisLiesCardSaid : Prop := Claim7.holds Tryz.pinned (.plain (OpenSpec.ofChange axisLiesSpec)) axisLiesCard

/-- THE SECOND FORM's CARD OF 'tarifflaw22.AxisCuts'. -/
def axisCutsUptoCard : Claim7 := { stood := { row := axisCutsUptoRow, standIns := [], harness := (true, "cd29b1128a5957308f93a07f8251c89774a2d3d0de04448a08b7ab0461ca58d6"), looks := false }, kinds := [], alts := [], laidByText := true, laidKinds := [.data, .pinned], laidTests := true, laidLooks := .later }
def AxisCutsUptoCardSaid : Prop := Claim7.holds Tryz.pinned (.plain (OpenSpec.upto axisCutsSpec)) axisCutsUptoCard

/-- THE SECOND FORM's CARD OF 'tarifflaw22.AxisLies'. -/
def axisLiesUptoCard : Claim7 := { stood := { row := axisLiesUptoRow, standIns := [], harness := (true, "cd29b1128a5957308f93a07f8251c89774a2d3d0de04448a08b7ab0461ca58d6"), looks := false }, kinds := [], alts := [], laidByText := true, laidKinds := [.data, .pinned], laidTests := true, laidLooks := .later }
def AxisLiesUptoCardSaid : Prop := Claim7.holds Tryz.pinned (.plain (OpenSpec.upto axisLiesSpec)) axisLiesUptoCard
end Rows
end Go.Proofs.YtbnadlpkbbdgjaaGreatDoor
