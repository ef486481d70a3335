/-
  No cell of these rows narrows 'for every input' (looked for: loops, veiled, ifaces, maps, wideKeys, modest, calm, conditions, laid).
  DERIVED. THE GIVEN ROWS OF THIS SEAT. 7 by the template 'for every input the law returns true; each argument reads behind the call as it read before'; 0 by the template 'total and deterministic' (their statements: YtnjiibeomailhaaTotals.lean).
  GIVEN WITH THE SEED: the statements are not yours to turn. If you find one false, say at which input.
  Laid BY PROGRAM, IN A SANDBOX (cutbox-rows.mjs): the forced cells as the released guide's own fill.sh prints them over the translation fa156c5c4b1debc0… (all of the seat's roots in one cut). By AI agents, Wed Nov 11 2026. No macro, syntax, notation, axiom, sorry.
-/
import Derived.Test.YtnjiibeomailhaaChecked
import GoSem.Claim
import GoSem.ClaimJoined
import GoSem.ClaimMapViews
import Derived.JoinedTies
import Derived.KernelRfl
namespace Go.Proofs.Ytnjiibeomailhaa
/- THE CELL 'sum', in the pinned program and in every row, IS THE sha256 OF THE DUMP (.gsa) THAT YtnjiibeomailhaaProg.lean LOADS. Nothing in Lean hashes anything: it is a label: what it is worth is what the hold of that sum in a sandbox is worth. -/
noncomputable def Try.pinned : Pinned := { name := "ytnjiibeomailhaa", sum := "fa156c5c4b1debc0adec361102a1a26b5a3f6d25d941d8228b20127b9a6e4ffc", checked := Try.checked }
namespace Rows
def none {H : Type} : Left H := { results := [], args := [] }

/-- 'tarifflaw01.WideRounds': WHATEVER THE INPUT: true; the input reads as it did. -/
def wideRoundsSpec : ChangeSpec := { name := "wideRounds", fn := fun _ => fun
  | [d1, d2] => { results := [.lit (.bool true)], args := [d1, d2] }
  | _ => none }
def wideRoundsRow : OpenClaim := { program := "ytnjiibeomailhaa", sum := "fa156c5c4b1debc0adec361102a1a26b5a3f6d25d941d8228b20127b9a6e4ffc", func := "tariff/tarifflaw01.WideRounds", spec := "wideRounds", inPlace := ["math/bits.Add64"], named := ["math/bits.divideError", "math/bits.overflowError"], apart := false }
def WideRoundsSaid : Prop := wideRoundsRow.holds Try.pinned (OpenSpec.ofChange wideRoundsSpec)

/-- ITS FALSE NEIGHBOUR: 'it returns false'. Refute it at one input. -/
def wideRoundsWrong : ChangeSpec := { name := "wideRounds", fn := fun _ => fun
  | [d1, d2] => { results := [.lit (.bool false)], args := [d1, d2] }
  | _ => none }
def WideRoundsWrongFalsely : Prop := wideRoundsRow.holds Try.pinned (OpenSpec.ofChange wideRoundsWrong)

/-- 'tarifflaw01.WideQuotients': WHATEVER THE INPUT: true; the input reads as it did. -/
def wideQuotientsSpec : ChangeSpec := { name := "wideQuotients", fn := fun _ => fun
  | [d1, d2] => { results := [.lit (.bool true)], args := [d1, d2] }
  | _ => none }
def wideQuotientsRow : OpenClaim := { program := "ytnjiibeomailhaa", sum := "fa156c5c4b1debc0adec361102a1a26b5a3f6d25d941d8228b20127b9a6e4ffc", func := "tariff/tarifflaw01.WideQuotients", spec := "wideQuotients", inPlace := ["math/bits.Add64", "math/bits.Sub64"], named := ["math/bits.divideError", "math/bits.overflowError"], apart := false }
def WideQuotientsSaid : Prop := wideQuotientsRow.holds Try.pinned (OpenSpec.ofChange wideQuotientsSpec)

/-- ITS FALSE NEIGHBOUR: 'it returns false'. Refute it at one input. -/
def wideQuotientsWrong : ChangeSpec := { name := "wideQuotients", fn := fun _ => fun
  | [d1, d2] => { results := [.lit (.bool false)], args := [d1, d2] }
  | _ => none }
def WideQuotientsWrongFalsely : Prop := wideQuotientsRow.holds Try.pinned (OpenSpec.ofChange wideQuotientsWrong)

/-- 'tarifflaw01.WideSums': WHATEVER THE INPUT: true; the input reads as it did. -/
def wideSumsSpec : ChangeSpec := { name := "wideSums", fn := fun _ => fun
  | [d1, d2] => { results := [.lit (.bool true)], args := [d1, d2] }
  | _ => none }
def wideSumsRow : OpenClaim := { program := "ytnjiibeomailhaa", sum := "fa156c5c4b1debc0adec361102a1a26b5a3f6d25d941d8228b20127b9a6e4ffc", func := "tariff/tarifflaw01.WideSums", spec := "wideSums", inPlace := ["math/bits.Add64", "math/bits.Sub64"], named := ["math/bits.divideError", "math/bits.overflowError"], apart := false }
def WideSumsSaid : Prop := wideSumsRow.holds Try.pinned (OpenSpec.ofChange wideSumsSpec)

/-- ITS FALSE NEIGHBOUR: 'it returns false'. Refute it at one input. -/
def wideSumsWrong : ChangeSpec := { name := "wideSums", fn := fun _ => fun
  | [d1, d2] => { results := [.lit (.bool false)], args := [d1, d2] }
  | _ => none }
def WideSumsWrongFalsely : Prop := wideSumsRow.holds Try.pinned (OpenSpec.ofChange wideSumsWrong)

/-- 'tarifflaw01.WideTexts': WHATEVER THE INPUT: true; the input reads as it did. -/
def wideTextsSpec : ChangeSpec := { name := "wideTexts", fn := fun _ => fun
  | [d1, d2] => { results := [.lit (.bool true)], args := [d1, d2] }
  | _ => none }
def wideTextsRow : OpenClaim := { program := "ytnjiibeomailhaa", sum := "fa156c5c4b1debc0adec361102a1a26b5a3f6d25d941d8228b20127b9a6e4ffc", func := "tariff/tarifflaw01.WideTexts", spec := "wideTexts", inPlace := ["math/bits.Add64"], named := ["math/bits.divideError", "math/bits.overflowError"], apart := false }
def WideTextsSaid : Prop := wideTextsRow.holds Try.pinned (OpenSpec.ofChange wideTextsSpec)

/-- ITS FALSE NEIGHBOUR: 'it returns false'. Refute it at one input. -/
def wideTextsWrong : ChangeSpec := { name := "wideTexts", fn := fun _ => fun
  | [d1, d2] => { results := [.lit (.bool false)], args := [d1, d2] }
  | _ => none }
def WideTextsWrongFalsely : Prop := wideTextsRow.holds Try.pinned (OpenSpec.ofChange wideTextsWrong)

/-- 'tarifflaw01.WideParts': WHATEVER THE INPUT: true; the input reads as it did. -/
def widePartsSpec : ChangeSpec := { name := "wideParts", fn := fun _ => fun
  | [d1, d2, d3] => { results := [.lit (.bool true)], args := [d1, d2, d3] }
  | _ => none }
def widePartsRow : OpenClaim := { program := "ytnjiibeomailhaa", sum := "fa156c5c4b1debc0adec361102a1a26b5a3f6d25d941d8228b20127b9a6e4ffc", func := "tariff/tarifflaw01.WideParts", spec := "wideParts", inPlace := ["math/bits.Add64"], named := ["math/bits.divideError", "math/bits.overflowError"], apart := false }
def WidePartsSaid : Prop := widePartsRow.holds Try.pinned (OpenSpec.ofChange widePartsSpec)

/-- ITS FALSE NEIGHBOUR: 'it returns false'. Refute it at one input. -/
def widePartsWrong : ChangeSpec := { name := "wideParts", fn := fun _ => fun
  | [d1, d2, d3] => { results := [.lit (.bool false)], args := [d1, d2, d3] }
  | _ => none }
def WidePartsWrongFalsely : Prop := widePartsRow.holds Try.pinned (OpenSpec.ofChange widePartsWrong)

/-- 'tarifflaw01.WideTens': WHATEVER THE INPUT: true; the input reads as it did. -/
def wideTensSpec : ChangeSpec := { name := "wideTens", fn := fun _ => fun
  | [d1, d2] => { results := [.lit (.bool true)], args := [d1, d2] }
  | _ => none }
def wideTensRow : OpenClaim := { program := "ytnjiibeomailhaa", sum := "fa156c5c4b1debc0adec361102a1a26b5a3f6d25d941d8228b20127b9a6e4ffc", func := "tariff/tarifflaw01.WideTens", spec := "wideTens", inPlace := ["math/bits.Add64"], named := ["math/bits.divideError", "math/bits.overflowError"], apart := false }
def WideTensSaid : Prop := wideTensRow.holds Try.pinned (OpenSpec.ofChange wideTensSpec)

/-- ITS FALSE NEIGHBOUR: 'it returns false'. Refute it at one input. -/
def wideTensWrong : ChangeSpec := { name := "wideTens", fn := fun _ => fun
  | [d1, d2] => { results := [.lit (.bool false)], args := [d1, d2] }
  | _ => none }
def WideTensWrongFalsely : Prop := wideTensRow.holds Try.pinned (OpenSpec.ofChange wideTensWrong)

/-- 'tarifflaw01.WideUndoes': WHATEVER THE INPUT: true; the input reads as it did. -/
def wideUndoesSpec : ChangeSpec := { name := "wideUndoes", fn := fun _ => fun
  | [d1, d2] => { results := [.lit (.bool true)], args := [d1, d2] }
  | _ => none }
def wideUndoesRow : OpenClaim := { program := "ytnjiibeomailhaa", sum := "fa156c5c4b1debc0adec361102a1a26b5a3f6d25d941d8228b20127b9a6e4ffc", func := "tariff/tarifflaw01.WideUndoes", spec := "wideUndoes", inPlace := ["math/bits.Add64", "math/bits.Sub64"], named := ["math/bits.divideError", "math/bits.overflowError"], apart := false }
def WideUndoesSaid : Prop := wideUndoesRow.holds Try.pinned (OpenSpec.ofChange wideUndoesSpec)

/-- ITS FALSE NEIGHBOUR: 'it returns false'. Refute it at one input. -/
def wideUndoesWrong : ChangeSpec := { name := "wideUndoes", fn := fun _ => fun
  | [d1, d2] => { results := [.lit (.bool false)], args := [d1, d2] }
  | _ => none }
def WideUndoesWrongFalsely : Prop := wideUndoesRow.holds Try.pinned (OpenSpec.ofChange wideUndoesWrong)

/- THE SECOND FORM. 'bulk': how many values and letters a reading holds, each counted each time it is reached (what is shared counts as often as it is met; a slice's spare places count too). A statement '..UptoSaid' is the law's where the arguments, and the package variables that the reading takes, are together of bulk at most 1048576: NARROWER than '..Said'. Prove '..Said' where nothing that the law and all that it calls make is longer than what came in: it says more and counts as full. Else prove '..UptoSaid'. A law counts once. -/
mutual
def uptoBulk {H : Type} : DataW H → Nat
  | .lit (.string bytes) => bytes.length + 1
  | .lit _ => 1
  | .nil => 1
  | .ptr d => uptoBulk d + 1
  | .slice elems spare => uptoBulkAll elems + uptoBulkAll spare + 1
  | .agg parts => uptoBulkAll parts + 1
  | .iface _ d => uptoBulk d + 1
  | .map entries => uptoBulkEntries entries + 1
  | .held _ => 1
def uptoBulkAll {H : Type} : List (DataW H) → Nat
  | [] => 0
  | d :: r => uptoBulk d + uptoBulkAll r
def uptoBulkEntries {H : Type} : List (Lit × DataW H) → Nat
  | [] => 0
  | x :: r => uptoBulkEntry x + uptoBulkEntries r
def uptoBulkEntry {H : Type} : Lit × DataW H → Nat
  | (.string bytes, d) => bytes.length + uptoBulk d + 1
  | (_, d) => uptoBulk d + 1
 end
def uptoSmall : (H : Type) → List (DataW H) → Bool := fun _ ds => decide (uptoBulkAll ds ≤ 1048576)
def OpenSpec.upto (s : _root_.Go.ChangeSpec) : _root_.Go.OpenSpec := { _root_.Go.OpenSpec.ofChange s with cond := some uptoSmall }

/-- 'tarifflaw01.WideRounds', WHERE WHAT IT READS IS OF BULK AT MOST 1048576: true; the input reads as it did. -/
def wideRoundsUptoRow : OpenClaim := { program := "ytnjiibeomailhaa", sum := "fa156c5c4b1debc0adec361102a1a26b5a3f6d25d941d8228b20127b9a6e4ffc", func := "tariff/tarifflaw01.WideRounds", spec := "wideRounds", inPlace := ["math/bits.Add64"], named := ["math/bits.divideError", "math/bits.overflowError"], apart := false, narrowed := true }
def WideRoundsUptoSaid : Prop := wideRoundsUptoRow.holds Try.pinned (OpenSpec.upto wideRoundsSpec)

/-- 'tarifflaw01.WideQuotients', WHERE WHAT IT READS IS OF BULK AT MOST 1048576: true; the input reads as it did. -/
def wideQuotientsUptoRow : OpenClaim := { program := "ytnjiibeomailhaa", sum := "fa156c5c4b1debc0adec361102a1a26b5a3f6d25d941d8228b20127b9a6e4ffc", func := "tariff/tarifflaw01.WideQuotients", spec := "wideQuotients", inPlace := ["math/bits.Add64", "math/bits.Sub64"], named := ["math/bits.divideError", "math/bits.overflowError"], apart := false, narrowed := true }
def WideQuotientsUptoSaid : Prop := wideQuotientsUptoRow.holds Try.pinned (OpenSpec.upto wideQuotientsSpec)

/-- 'tarifflaw01.WideSums', WHERE WHAT IT READS IS OF BULK AT MOST 1048576: true; the input reads as it did. -/
def wideSumsUptoRow : OpenClaim := { program := "ytnjiibeomailhaa", sum := "fa156c5c4b1debc0adec361102a1a26b5a3f6d25d941d8228b20127b9a6e4ffc", func := "tariff/tarifflaw01.WideSums", spec := "wideSums", inPlace := ["math/bits.Add64", "math/bits.Sub64"], named := ["math/bits.divideError", "math/bits.overflowError"], apart := false, narrowed := true }
def WideSumsUptoSaid : Prop := wideSumsUptoRow.holds Try.pinned (OpenSpec.upto wideSumsSpec)

/-- 'tarifflaw01.WideTexts', WHERE WHAT IT READS IS OF BULK AT MOST 1048576: true; the input reads as it did. -/
def wideTextsUptoRow : OpenClaim := { program := "ytnjiibeomailhaa", sum := "fa156c5c4b1debc0adec361102a1a26b5a3f6d25d941d8228b20127b9a6e4ffc", func := "tariff/tarifflaw01.WideTexts", spec := "wideTexts", inPlace := ["math/bits.Add64"], named := ["math/bits.divideError", "math/bits.overflowError"], apart := false, narrowed := true }
def WideTextsUptoSaid : Prop := wideTextsUptoRow.holds Try.pinned (OpenSpec.upto wideTextsSpec)

/-- 'tarifflaw01.WideParts', WHERE WHAT IT READS IS OF BULK AT MOST 1048576: true; the input reads as it did. -/
def widePartsUptoRow : OpenClaim := { program := "ytnjiibeomailhaa", sum := "fa156c5c4b1debc0adec361102a1a26b5a3f6d25d941d8228b20127b9a6e4ffc", func := "tariff/tarifflaw01.WideParts", spec := "wideParts", inPlace := ["math/bits.Add64"], named := ["math/bits.divideError", "math/bits.overflowError"], apart := false, narrowed := true }
def WidePartsUptoSaid : Prop := widePartsUptoRow.holds Try.pinned (OpenSpec.upto widePartsSpec)

/-- 'tarifflaw01.WideTens', WHERE WHAT IT READS IS OF BULK AT MOST 1048576: true; the input reads as it did. -/
def wideTensUptoRow : OpenClaim := { program := "ytnjiibeomailhaa", sum := "fa156c5c4b1debc0adec361102a1a26b5a3f6d25d941d8228b20127b9a6e4ffc", func := "tariff/tarifflaw01.WideTens", spec := "wideTens", inPlace := ["math/bits.Add64"], named := ["math/bits.divideError", "math/bits.overflowError"], apart := false, narrowed := true }
def WideTensUptoSaid : Prop := wideTensUptoRow.holds Try.pinned (OpenSpec.upto wideTensSpec)

/-- 'tarifflaw01.WideUndoes', WHERE WHAT IT READS IS OF BULK AT MOST 1048576: true; the input reads as it did. -/
def wideUndoesUptoRow : OpenClaim := { program := "ytnjiibeomailhaa", sum := "fa156c5c4b1debc0adec361102a1a26b5a3f6d25d941d8228b20127b9a6e4ffc", func := "tariff/tarifflaw01.WideUndoes", spec := "wideUndoes", inPlace := ["math/bits.Add64", "math/bits.Sub64"], named := ["math/bits.divideError", "math/bits.overflowError"], apart := false, narrowed := true }
def WideUndoesUptoSaid : Prop := wideUndoesUptoRow.holds Try.pinned (OpenSpec.upto wideUndoesSpec)

end Rows
end Go.Proofs.Ytnjiibeomailhaa
