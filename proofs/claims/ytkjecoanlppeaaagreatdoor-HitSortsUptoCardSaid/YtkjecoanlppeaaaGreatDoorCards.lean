/-
  DERIVED. GIVEN WITH THE SEED: THE CARDS: each row of YtkjecoanlppeaaaGreatDoorRows.lean that lists a variable, with what it lists TIED to the program's text (the seventh form; the later family's looks); each row that meets fmt, with fmt's text TOLD by the authors' own Lean function (tested against real Go, not proved from fmt's source: count such statements apart). THE CARD IS WHAT COUNTS. Prove the row's statement (the work); the ties are given (YtkjecoanlppeaaaGreatDoorTie.lean); close each card by the builder's one call (the guide's Derived/Test/ToyasCard.lean, 'card_holds'). Laid BY PROGRAM, IN A SANDBOX (cutbox-door.mjs). By AI agents, Wed Nov 11 2026. No macro, syntax, notation, axiom, sorry.
-/
import Derived.Test.YtkjecoanlppeaaaGreatDoorRows
import GoSem.ClaimSeven
namespace Go.Proofs.YtkjecoanlppeaaaGreatDoor
namespace Rows

/-- THE TIED CARD OF 'tarifflaw18.HitDecides'. -/
def hitDecidesCard : Claim7 := { stood := { row := hitDecidesRow, standIns := [], harness := (true, "aa39b0e8e57dbd276d835f393672c170656cda582534081f1214a2a9be65daa2"), looks := false }, kinds := [], alts := [], laidByText := true, laidKinds := [.data, .pinned], laidTests := true, laidLooks := .later }
def HitDecidesCardSaid : Prop := Claim7.holds Tryz.pinned (.plain (OpenSpec.ofChange hitDecidesSpec)) hitDecidesCard

/-- THE TIED CARD OF 'tarifflaw18.HitSingles'. -/
def hitSinglesCard : Claim7 := { stood := { row := hitSinglesRow, standIns := [], harness := (true, "aa39b0e8e57dbd276d835f393672c170656cda582534081f1214a2a9be65daa2"), looks := false }, kinds := [], alts := [], laidByText := true, laidKinds := [.data, .pinned], laidTests := true, laidLooks := .later }
def HitSinglesCardSaid : Prop := Claim7.holds Tryz.pinned (.plain (OpenSpec.ofChange hitSinglesSpec)) hitSinglesCard

/-- THE TIED CARD OF 'tarifflaw18.HitLists'. -/
def hitListsCard : Claim7 := { stood := { row := hitListsRow, standIns := [], harness := (true, "aa39b0e8e57dbd276d835f393672c170656cda582534081f1214a2a9be65daa2"), looks := false }, kinds := [], alts := [], laidByText := true, laidKinds := [.data, .pinned], laidTests := true, laidLooks := .later }
def HitListsCardSaid : Prop := Claim7.holds Tryz.pinned (.plain (OpenSpec.ofChange hitListsSpec)) hitListsCard

/-- THE TIED CARD OF 'tarifflaw18.HitSorts'. -/
def hitSortsCard : Claim7 := { stood := { row := hitSortsRow, standIns := [], harness := (true, "aa39b0e8e57dbd276d835f393672c170656cda582534081f1214a2a9be65daa2"), looks := false }, kinds := [], alts := [], laidByText := true, laidKinds := [.data, .pinned], laidTests := true, laidLooks := .later }
def HitSortsCardSaid : Prop := Claim7.holds Tryz.pinned (.plain (OpenSpec.ofChange hitSortsSpec)) hitSortsCard

/-- THE TIED CARD OF 'tarifflaw18.HitSigns'. -/
def hitSignsCard : Claim7 := { stood := { row := hitSignsRow, standIns := [], harness := (true, "aa39b0e8e57dbd276d835f393672c170656cda582534081f1214a2a9be65daa2"), looks := false }, kinds := [], alts := [], laidByText := true, laidKinds := [.data, .pinned], laidTests := true, laidLooks := .later }
def HitSignsCardSaid : Prop := Claim7.holds Tryz.pinned (.plain (OpenSpec.ofChange hitSignsSpec)) hitSignsCard

/-- THE TIED CARD OF 'tarifflaw18.HitNumbers'. -/
def hitNumbersCard : Claim7 := { stood := { row := hitNumbersRow, standIns := [], harness := (true, "aa39b0e8e57dbd276d835f393672c170656cda582534081f1214a2a9be65daa2"), looks := false }, kinds := [], alts := [], laidByText := true, laidKinds := [.data, .pinned], laidTests := true, laidLooks := .later }
def HitNumbersCardSaid : Prop := Claim7.holds Tryz.pinned (.plain (OpenSpec.ofChange hitNumbersSpec)) hitNumbersCard

/-- THE SECOND FORM's CARD OF 'tarifflaw18.HitDecides'. -/
def hitDecidesUptoCard : Claim7 := { stood := { row := hitDecidesUptoRow, standIns := [], harness := (true, "aa39b0e8e57dbd276d835f393672c170656cda582534081f1214a2a9be65daa2"), looks := false }, kinds := [], alts := [], laidByText := true, laidKinds := [.data, .pinned], laidTests := true, laidLooks := .later }
def HitDecidesUptoCardSaid : Prop := Claim7.holds Tryz.pinned (.plain (OpenSpec.upto hitDecidesSpec)) hitDecidesUptoCard

/-- THE SECOND FORM's CARD OF 'tarifflaw18.HitSingles'. -/
def hitSinglesUptoCard : Claim7 := { stood := { row := hitSinglesUptoRow, standIns := [], harness := (true, "aa39b0e8e57dbd276d835f393672c170656cda582534081f1214a2a9be65daa2"), looks := false }, kinds := [], alts := [], laidByText := true, laidKinds := [.data, .pinned], laidTests := true, laidLooks := .later }
def HitSinglesUptoCardSaid : Prop := Claim7.holds Tryz.pinned (.plain (OpenSpec.upto hitSinglesSpec)) hitSinglesUptoCard

/-- THE SECOND FORM's CARD OF 'tarifflaw18.HitLists'. -/
def hitListsUptoCard : Claim7 := { stood := { row := hitListsUptoRow, standIns := [], harness := (true, "aa39b0e8e57dbd276d835f393672c170656cda582534081f1214a2a9be65daa2"), looks := false }, kinds := [], alts := [], laidByText := true, laidKinds := [.data, .pinned], laidTests := true, laidLooks := .later }
def HitListsUptoCardSaid : Prop := Claim7.holds Tryz.pinned (.plain (OpenSpec.upto hitListsSpec)) hitListsUptoCard

/-- THE SECOND FORM's CARD OF 'tarifflaw18.HitSorts'. -/
def hitSortsUptoCard : Claim7 := { stood := { row := hitSortsUptoRow, standIns := [], harness := (true, "aa39b0e8e57dbd276d835f393672c170656cda582534081f1214a2a9be65daa2"), looks := false }, kinds := [], alts := [], laidByText := true, laidKinds := [.data, .pinned], laidTests := true, laidLooks := .later }
def HitSortsUptoCardSaid : Prop := Claim7.holds Tryz.pinned (.plain (OpenSpec.upto hitSortsSpec)) hitSortsUptoCard

/-- THE SECOND FORM's CARD OF 'tarifflaw18.HitSigns'. -/
def hitSignsUptoCard : Claim7 := { stood := { row := hitSignsUptoRow, standIns := [], harness := (true, "aa39b0e8e57dbd276d835f393672c170656cda582534081f1214a2a9be65daa2"), looks := false }, kinds := [], alts := [], laidByText := true, laidKinds := [.data, .pinned], laidTests := true, laidLooks := .later }
def HitSignsUptoCardSaid : Prop := Claim7.holds Tryz.pinned (.plain (OpenSpec.upto hitSignsSpec)) hitSignsUptoCard

/-- THE SECOND FORM's CARD OF 'tarifflaw18.HitNumbers'. -/
def hitNumbersUptoCard : Claim7 := { stood := { row := hitNumbersUptoRow, standIns := [], harness := (true, "aa39b0e8e57dbd276d835f393672c170656cda582534081f1214a2a9be65daa2"), looks := false }, kinds := [], alts := [], laidByText := true, laidKinds := [.data, .pinned], laidTests := true, laidLooks := .later }
def HitNumbersUptoCardSaid : Prop := Claim7.holds Tryz.pinned (.plain (OpenSpec.upto hitNumbersSpec)) hitNumbersUptoCard
end Rows
end Go.Proofs.YtkjecoanlppeaaaGreatDoor
