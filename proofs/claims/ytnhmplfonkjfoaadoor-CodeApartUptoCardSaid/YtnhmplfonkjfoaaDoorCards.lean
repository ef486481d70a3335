/-
  DERIVED. GIVEN WITH THE SEED: THE CARDS: each row of YtnhmplfonkjfoaaDoorRows.lean that lists a variable, with what it lists TIED to the program's text (the seventh form; the later family's looks); each row that meets fmt, with fmt's text TOLD by the authors' own Lean function (tested against real Go, not proved from fmt's source: count such statements apart). THE CARD IS WHAT COUNTS. Prove the row's statement (the work); the ties are given (YtnhmplfonkjfoaaDoorTie.lean); close each card by the builder's one call (the guide's Derived/Test/ToyasCard.lean, 'card_holds'). Laid BY PROGRAM, IN A SANDBOX (cutbox-door.mjs). By AI agents, Wed Nov 11 2026. No macro, syntax, notation, axiom, sorry.
-/
import Derived.Test.YtnhmplfonkjfoaaDoorRows
import GoSem.ClaimSeven
namespace Go.Proofs.YtnhmplfonkjfoaaDoor
namespace Rows

/-- THE TIED CARD OF 'tarifflaw14.CodeCompiles'. -/
def codeCompilesCard : Claim7 := { stood := { row := codeCompilesRow, standIns := [], harness := (true, "301f33fbe41f99a3ddb61bd84c370489fb4b2fca9df35798996ccbdea369f3f1"), looks := false }, kinds := [], alts := [], laidByText := true, laidKinds := [.data, .pinned], laidTests := true, laidLooks := .later }
def CodeCompilesCardSaid : Prop := Claim7.holds Tryd.pinned (.plain (OpenSpec.ofChange codeCompilesSpec)) codeCompilesCard

/-- THE TIED CARD OF 'tarifflaw14.CodeVerifies'. -/
def codeVerifiesCard : Claim7 := { stood := { row := codeVerifiesRow, standIns := [], harness := (true, "301f33fbe41f99a3ddb61bd84c370489fb4b2fca9df35798996ccbdea369f3f1"), looks := false }, kinds := [], alts := [], laidByText := true, laidKinds := [.data, .pinned], laidTests := true, laidLooks := .later }
def CodeVerifiesCardSaid : Prop := Claim7.holds Tryd.pinned (.plain (OpenSpec.ofChange codeVerifiesSpec)) codeVerifiesCard

/-- THE TIED CARD OF 'tarifflaw14.CodeBacks'. -/
def codeBacksCard : Claim7 := { stood := { row := codeBacksRow, standIns := [], harness := (true, "301f33fbe41f99a3ddb61bd84c370489fb4b2fca9df35798996ccbdea369f3f1"), looks := false }, kinds := [], alts := [], laidByText := true, laidKinds := [.data, .pinned], laidTests := true, laidLooks := .later }
def CodeBacksCardSaid : Prop := Claim7.holds Tryd.pinned (.plain (OpenSpec.ofChange codeBacksSpec)) codeBacksCard

/-- THE TIED CARD OF 'tarifflaw14.CodeRound'. -/
def codeRoundCard : Claim7 := { stood := { row := codeRoundRow, standIns := [], harness := (true, "301f33fbe41f99a3ddb61bd84c370489fb4b2fca9df35798996ccbdea369f3f1"), looks := false }, kinds := [], alts := [], laidByText := true, laidKinds := [.data, .pinned], laidTests := true, laidLooks := .later }
def CodeRoundCardSaid : Prop := Claim7.holds Tryd.pinned (.plain (OpenSpec.ofChange codeRoundSpec)) codeRoundCard

/-- THE TIED CARD OF 'tarifflaw14.CodeSound'. -/
def codeSoundCard : Claim7 := { stood := { row := codeSoundRow, standIns := [], harness := (true, "301f33fbe41f99a3ddb61bd84c370489fb4b2fca9df35798996ccbdea369f3f1"), looks := false }, kinds := [], alts := [], laidByText := true, laidKinds := [.data, .pinned], laidTests := true, laidLooks := .later }
def CodeSoundCardSaid : Prop := Claim7.holds Tryd.pinned (.plain (OpenSpec.ofChange codeSoundSpec)) codeSoundCard

/-- THE TIED CARD OF 'tarifflaw14.CodeApart'. -/
def codeApartCard : Claim7 := { stood := { row := codeApartRow, standIns := [], harness := (true, "301f33fbe41f99a3ddb61bd84c370489fb4b2fca9df35798996ccbdea369f3f1"), looks := false }, kinds := [], alts := [], laidByText := true, laidKinds := [.data, .pinned], laidTests := true, laidLooks := .later }
def CodeApartCardSaid : Prop := Claim7.holds Tryd.pinned (.plain (OpenSpec.ofChange codeApartSpec)) codeApartCard

/-- THE SECOND FORM's CARD OF 'tarifflaw14.CodeCompiles'. -/
def codeCompilesUptoCard : Claim7 := { stood := { row := codeCompilesUptoRow, standIns := [], harness := (true, "301f33fbe41f99a3ddb61bd84c370489fb4b2fca9df35798996ccbdea369f3f1"), looks := false }, kinds := [], alts := [], laidByText := true, laidKinds := [.data, .pinned], laidTests := true, laidLooks := .later }
def CodeCompilesUptoCardSaid : Prop := Claim7.holds Tryd.pinned (.plain (OpenSpec.upto codeCompilesSpec)) codeCompilesUptoCard

/-- THE SECOND FORM's CARD OF 'tarifflaw14.CodeVerifies'. -/
def codeVerifiesUptoCard : Claim7 := { stood := { row := codeVerifiesUptoRow, standIns := [], harness := (true, "301f33fbe41f99a3ddb61bd84c370489fb4b2fca9df35798996ccbdea369f3f1"), looks := false }, kinds := [], alts := [], laidByText := true, laidKinds := [.data, .pinned], laidTests := true, laidLooks := .later }
def CodeVerifiesUptoCardSaid : Prop := Claim7.holds Tryd.pinned (.plain (OpenSpec.upto codeVerifiesSpec)) codeVerifiesUptoCard

/-- THE SECOND FORM's CARD OF 'tarifflaw14.CodeBacks'. -/
def codeBacksUptoCard : Claim7 := { stood := { row := codeBacksUptoRow, standIns := [], harness := (true, "301f33fbe41f99a3ddb61bd84c370489fb4b2fca9df35798996ccbdea369f3f1"), looks := false }, kinds := [], alts := [], laidByText := true, laidKinds := [.data, .pinned], laidTests := true, laidLooks := .later }
def CodeBacksUptoCardSaid : Prop := Claim7.holds Tryd.pinned (.plain (OpenSpec.upto codeBacksSpec)) codeBacksUptoCard

/-- THE SECOND FORM's CARD OF 'tarifflaw14.CodeRound'. -/
def codeRoundUptoCard : Claim7 := { stood := { row := codeRoundUptoRow, standIns := [], harness := (true, "301f33fbe41f99a3ddb61bd84c370489fb4b2fca9df35798996ccbdea369f3f1"), looks := false }, kinds := [], alts := [], laidByText := true, laidKinds := [.data, .pinned], laidTests := true, laidLooks := .later }
def CodeRoundUptoCardSaid : Prop := Claim7.holds Tryd.pinned (.plain (OpenSpec.upto codeRoundSpec)) codeRoundUptoCard

/-- THE SECOND FORM's CARD OF 'tarifflaw14.CodeSound'. -/
def codeSoundUptoCard : Claim7 := { stood := { row := codeSoundUptoRow, standIns := [], harness := (true, "301f33fbe41f99a3ddb61bd84c370489fb4b2fca9df35798996ccbdea369f3f1"), looks := false }, kinds := [], alts := [], laidByText := true, laidKinds := [.data, .pinned], laidTests := true, laidLooks := .later }
def CodeSoundUptoCardSaid : Prop := Claim7.holds Tryd.pinned (.plain (OpenSpec.upto codeSoundSpec)) codeSoundUptoCard

/-- THE SECOND FORM's CARD OF 'tarifflaw14.CodeApart'. -/
def codeApartUptoCard : Claim7 := { stood := { row := codeApartUptoRow, standIns := [], harness := (true, "301f33fbe41f99a3ddb61bd84c370489fb4b2fca9df35798996ccbdea369f3f1"), looks := false }, kinds := [], alts := [], laidByText := true, laidKinds := [.data, .pinned], laidTests := true, laidLooks := .later }
def CodeApartUptoCardSaid : Prop := Claim7.holds Tryd.pinned (.plain (OpenSpec.upto codeApartSpec)) codeApartUptoCard
end Rows
end Go.Proofs.YtnhmplfonkjfoaaDoor
