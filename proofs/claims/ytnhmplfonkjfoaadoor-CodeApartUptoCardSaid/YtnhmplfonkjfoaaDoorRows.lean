/-
  NARROWER THAN 'FOR EVERY INPUT', by the rows' own cells (each row's printed sentence says how): CodeCompiles: laid · CodeVerifies: laid · CodeBacks: laid · CodeRound: laid · CodeSound: laid · CodeApart: laid.
  DERIVED. THE GIVEN ROWS OF THIS SEAT. 6 by the template 'for every input the law returns true; each argument reads behind the call as it read before'; 0 by the template 'total and deterministic' (their statements: YtnhmplfonkjfoaaDoorTotals.lean).
  GIVEN WITH THE SEED: the statements are not yours to turn. If you find one false, say at which input.
  Laid BY PROGRAM, IN A SANDBOX (cutbox-rows.mjs): the forced cells as the released guide's own fill.sh prints them over the translation 1a87fcfc95732123… (all of the seat's roots in one cut). By AI agents, Wed Nov 11 2026. No macro, syntax, notation, axiom, sorry.
-/
import Derived.Test.YtnhmplfonkjfoaaDoorChecked
import GoSem.PinnedTables
import GoSem.Claim
import GoSem.ClaimJoined
import GoSem.ClaimMapViews
import Derived.JoinedTies
import Derived.KernelRfl
namespace Go.Proofs.YtnhmplfonkjfoaaDoor
/- THE CELL 'sum', in the pinned program and in every row, IS THE sha256 OF THE DUMP (.gsa) THAT YtnhmplfonkjfoaaDoorProg.lean LOADS. Nothing in Lean hashes anything: it is a label: what it is worth is what the hold of that sum in a sandbox is worth. -/
noncomputable def Tryd.pinned : Pinned := { name := "ytnhmplfonkjfoaadoor", sum := "1a87fcfc95732123310090bc4de44a2c99b3621d9620d9236edb78bc6f07f7da", checked := Tryd.checked }
namespace Rows
def none {H : Type} : Left H := { results := [], args := [] }

/- WHAT THE LISTED PACKAGE-LEVEL VARIABLES READ AS WHEN THE CALL BEGINS. Each datum BY PROGRAM (the guide's laid-datum.mjs) off the statement by which the dump's own 'gosem.cut.vars' lays the variable. In a bare row this is a premise. The card (YtnhmplfonkjfoaaDoorCards.lean) ties it to the program's text. -/
def laid_unicode_utf8_acceptRanges {H : Type} : DataW H := .agg [.agg [.lit (.int .u8 128), .lit (.int .u8 191)], .agg [.lit (.int .u8 160), .lit (.int .u8 191)], .agg [.lit (.int .u8 128), .lit (.int .u8 159)], .agg [.lit (.int .u8 144), .lit (.int .u8 191)], .agg [.lit (.int .u8 128), .lit (.int .u8 143)], .agg [.lit (.int .u8 0), .lit (.int .u8 0)], .agg [.lit (.int .u8 0), .lit (.int .u8 0)], .agg [.lit (.int .u8 0), .lit (.int .u8 0)], .agg [.lit (.int .u8 0), .lit (.int .u8 0)], .agg [.lit (.int .u8 0), .lit (.int .u8 0)], .agg [.lit (.int .u8 0), .lit (.int .u8 0)], .agg [.lit (.int .u8 0), .lit (.int .u8 0)], .agg [.lit (.int .u8 0), .lit (.int .u8 0)], .agg [.lit (.int .u8 0), .lit (.int .u8 0)], .agg [.lit (.int .u8 0), .lit (.int .u8 0)], .agg [.lit (.int .u8 0), .lit (.int .u8 0)]]
/-- One of Go's own tables, pinned by name: the form's constant. -/
def laid_unicode_utf8_first : DataW Unit := Go.Pinned.utf8First

/-- 'tarifflaw14.CodeCompiles': WHATEVER THE INPUT: true; the input reads as it did. -/
def codeCompilesSpec : ChangeSpec := { name := "codeCompiles", fn := fun _ => fun
  | [d1, d2] => { results := [.lit (.bool true)], args := [d1, d2] }
  | _ => none }
def codeCompilesRow : OpenClaim := { program := "ytnhmplfonkjfoaadoor", sum := "1a87fcfc95732123310090bc4de44a2c99b3621d9620d9236edb78bc6f07f7da", func := "tariff/tarifflaw14.CodeCompiles", spec := "codeCompiles", inPlace := ["math/bits.Add64"], unfollowed := true, recurses := true, named := ["math/bits.divideError", "math/bits.overflowError", "unicode/utf8.first", "unicode/utf8.acceptRanges"], apart := false, laid := [("unicode/utf8.acceptRanges", laid_unicode_utf8_acceptRanges), ("unicode/utf8.first", laid_unicode_utf8_first)] }
def CodeCompilesSaid : Prop := codeCompilesRow.holds Tryd.pinned (OpenSpec.ofChange codeCompilesSpec)

/-- ITS FALSE NEIGHBOUR: 'it returns false'. Refute it at one input. -/
def codeCompilesWrong : ChangeSpec := { name := "codeCompiles", fn := fun _ => fun
  | [d1, d2] => { results := [.lit (.bool false)], args := [d1, d2] }
  | _ => none }
def CodeCompilesWrongFalsely : Prop := codeCompilesRow.holds Tryd.pinned (OpenSpec.ofChange codeCompilesWrong)

/-- 'tarifflaw14.CodeVerifies': WHATEVER THE INPUT: true; the input reads as it did. -/
def codeVerifiesSpec : ChangeSpec := { name := "codeVerifies", fn := fun _ => fun
  | [d1, d2] => { results := [.lit (.bool true)], args := [d1, d2] }
  | _ => none }
def codeVerifiesRow : OpenClaim := { program := "ytnhmplfonkjfoaadoor", sum := "1a87fcfc95732123310090bc4de44a2c99b3621d9620d9236edb78bc6f07f7da", func := "tariff/tarifflaw14.CodeVerifies", spec := "codeVerifies", inPlace := ["math/bits.Add64"], unfollowed := true, recurses := true, named := ["math/bits.divideError", "math/bits.overflowError", "unicode/utf8.first", "unicode/utf8.acceptRanges"], apart := false, laid := [("unicode/utf8.acceptRanges", laid_unicode_utf8_acceptRanges), ("unicode/utf8.first", laid_unicode_utf8_first)] }
def CodeVerifiesSaid : Prop := codeVerifiesRow.holds Tryd.pinned (OpenSpec.ofChange codeVerifiesSpec)

/-- ITS FALSE NEIGHBOUR: 'it returns false'. Refute it at one input. -/
def codeVerifiesWrong : ChangeSpec := { name := "codeVerifies", fn := fun _ => fun
  | [d1, d2] => { results := [.lit (.bool false)], args := [d1, d2] }
  | _ => none }
def CodeVerifiesWrongFalsely : Prop := codeVerifiesRow.holds Tryd.pinned (OpenSpec.ofChange codeVerifiesWrong)

/-- 'tarifflaw14.CodeBacks': WHATEVER THE INPUT: true; the input reads as it did. -/
def codeBacksSpec : ChangeSpec := { name := "codeBacks", fn := fun _ => fun
  | [d1, d2] => { results := [.lit (.bool true)], args := [d1, d2] }
  | _ => none }
def codeBacksRow : OpenClaim := { program := "ytnhmplfonkjfoaadoor", sum := "1a87fcfc95732123310090bc4de44a2c99b3621d9620d9236edb78bc6f07f7da", func := "tariff/tarifflaw14.CodeBacks", spec := "codeBacks", inPlace := ["math/bits.Add64"], unfollowed := true, recurses := true, named := ["math/bits.divideError", "math/bits.overflowError", "unicode/utf8.first", "unicode/utf8.acceptRanges"], apart := false, laid := [("unicode/utf8.acceptRanges", laid_unicode_utf8_acceptRanges), ("unicode/utf8.first", laid_unicode_utf8_first)] }
def CodeBacksSaid : Prop := codeBacksRow.holds Tryd.pinned (OpenSpec.ofChange codeBacksSpec)

/-- ITS FALSE NEIGHBOUR: 'it returns false'. Refute it at one input. -/
def codeBacksWrong : ChangeSpec := { name := "codeBacks", fn := fun _ => fun
  | [d1, d2] => { results := [.lit (.bool false)], args := [d1, d2] }
  | _ => none }
def CodeBacksWrongFalsely : Prop := codeBacksRow.holds Tryd.pinned (OpenSpec.ofChange codeBacksWrong)

/-- 'tarifflaw14.CodeRound': WHATEVER THE INPUT: true; the input reads as it did. -/
def codeRoundSpec : ChangeSpec := { name := "codeRound", fn := fun _ => fun
  | [d1, d2] => { results := [.lit (.bool true)], args := [d1, d2] }
  | _ => none }
def codeRoundRow : OpenClaim := { program := "ytnhmplfonkjfoaadoor", sum := "1a87fcfc95732123310090bc4de44a2c99b3621d9620d9236edb78bc6f07f7da", func := "tariff/tarifflaw14.CodeRound", spec := "codeRound", inPlace := ["math/bits.Add64"], unfollowed := true, recurses := true, named := ["math/bits.divideError", "math/bits.overflowError", "unicode/utf8.first", "unicode/utf8.acceptRanges"], apart := false, laid := [("unicode/utf8.acceptRanges", laid_unicode_utf8_acceptRanges), ("unicode/utf8.first", laid_unicode_utf8_first)] }
def CodeRoundSaid : Prop := codeRoundRow.holds Tryd.pinned (OpenSpec.ofChange codeRoundSpec)

/-- ITS FALSE NEIGHBOUR: 'it returns false'. Refute it at one input. -/
def codeRoundWrong : ChangeSpec := { name := "codeRound", fn := fun _ => fun
  | [d1, d2] => { results := [.lit (.bool false)], args := [d1, d2] }
  | _ => none }
def CodeRoundWrongFalsely : Prop := codeRoundRow.holds Tryd.pinned (OpenSpec.ofChange codeRoundWrong)

/-- 'tarifflaw14.CodeSound': WHATEVER THE INPUT: true; the input reads as it did. -/
def codeSoundSpec : ChangeSpec := { name := "codeSound", fn := fun _ => fun
  | [d1, d2] => { results := [.lit (.bool true)], args := [d1, d2] }
  | _ => none }
def codeSoundRow : OpenClaim := { program := "ytnhmplfonkjfoaadoor", sum := "1a87fcfc95732123310090bc4de44a2c99b3621d9620d9236edb78bc6f07f7da", func := "tariff/tarifflaw14.CodeSound", spec := "codeSound", inPlace := ["math/bits.Add64"], unfollowed := true, recurses := true, named := ["math/bits.divideError", "math/bits.overflowError", "unicode/utf8.first", "unicode/utf8.acceptRanges"], apart := false, laid := [("unicode/utf8.acceptRanges", laid_unicode_utf8_acceptRanges), ("unicode/utf8.first", laid_unicode_utf8_first)] }
def CodeSoundSaid : Prop := codeSoundRow.holds Tryd.pinned (OpenSpec.ofChange codeSoundSpec)

/-- ITS FALSE NEIGHBOUR: 'it returns false'. Refute it at one input. -/
def codeSoundWrong : ChangeSpec := { name := "codeSound", fn := fun _ => fun
  | [d1, d2] => { results := [.lit (.bool false)], args := [d1, d2] }
  | _ => none }
def CodeSoundWrongFalsely : Prop := codeSoundRow.holds Tryd.pinned (OpenSpec.ofChange codeSoundWrong)

/-- 'tarifflaw14.CodeApart': WHATEVER THE INPUT: true; the input reads as it did. -/
def codeApartSpec : ChangeSpec := { name := "codeApart", fn := fun _ => fun
  | [d1, d2] => { results := [.lit (.bool true)], args := [d1, d2] }
  | _ => none }
def codeApartRow : OpenClaim := { program := "ytnhmplfonkjfoaadoor", sum := "1a87fcfc95732123310090bc4de44a2c99b3621d9620d9236edb78bc6f07f7da", func := "tariff/tarifflaw14.CodeApart", spec := "codeApart", inPlace := ["math/bits.Add64"], unfollowed := true, recurses := true, named := ["math/bits.divideError", "math/bits.overflowError", "unicode/utf8.first", "unicode/utf8.acceptRanges"], apart := false, laid := [("unicode/utf8.acceptRanges", laid_unicode_utf8_acceptRanges), ("unicode/utf8.first", laid_unicode_utf8_first)] }
def CodeApartSaid : Prop := codeApartRow.holds Tryd.pinned (OpenSpec.ofChange codeApartSpec)

/-- ITS FALSE NEIGHBOUR: 'it returns false'. Refute it at one input. -/
def codeApartWrong : ChangeSpec := { name := "codeApart", fn := fun _ => fun
  | [d1, d2] => { results := [.lit (.bool false)], args := [d1, d2] }
  | _ => none }
def CodeApartWrongFalsely : Prop := codeApartRow.holds Tryd.pinned (OpenSpec.ofChange codeApartWrong)

/- THE SECOND FORM. 'bulk': how many values and letters a reading holds, each counted each time it is reached (what is shared counts as often as it is met; a slice's spare places count too). A statement '..UptoSaid' is the law's where the arguments, and the package variables that the reading takes, are together of bulk at most 1048576: NARROWER than '..Said'. Prove '..Said' where nothing that the law and all that it calls make is longer than what came in: it says more and counts as full. Else prove '..UptoSaid'. A law counts once. -/
mutual
def uptoBulk {H : Type} : DataW H → Nat
  | .lit (.string bytes) => bytes.length + 1
  | .lit _ => 1
  | .nil => 1
  | .ptr d => uptoBulk d + 1
  | .slice elems spare => uptoBulkAll elems + uptoBulkAll spare + 1
  | .agg parts => uptoBulkAll parts + 1
  | .iface _ d => uptoBulk d + 1
  | .map entries => uptoBulkEntries entries + 1
  | .held _ => 1
def uptoBulkAll {H : Type} : List (DataW H) → Nat
  | [] => 0
  | d :: r => uptoBulk d + uptoBulkAll r
def uptoBulkEntries {H : Type} : List (Lit × DataW H) → Nat
  | [] => 0
  | x :: r => uptoBulkEntry x + uptoBulkEntries r
def uptoBulkEntry {H : Type} : Lit × DataW H → Nat
  | (.string bytes, d) => bytes.length + uptoBulk d + 1
  | (_, d) => uptoBulk d + 1
 end
def uptoSmall : (H : Type) → List (DataW H) → Bool := fun _ ds => decide (uptoBulkAll ds ≤ 1048576)
def OpenSpec.upto (s : _root_.Go.ChangeSpec) : _root_.Go.OpenSpec := { _root_.Go.OpenSpec.ofChange s with cond := some uptoSmall }

/-- 'tarifflaw14.CodeCompiles', WHERE WHAT IT READS IS OF BULK AT MOST 1048576: true; the input reads as it did. -/
def codeCompilesUptoRow : OpenClaim := { program := "ytnhmplfonkjfoaadoor", sum := "1a87fcfc95732123310090bc4de44a2c99b3621d9620d9236edb78bc6f07f7da", func := "tariff/tarifflaw14.CodeCompiles", spec := "codeCompiles", inPlace := ["math/bits.Add64"], unfollowed := true, recurses := true, named := ["math/bits.divideError", "math/bits.overflowError", "unicode/utf8.first", "unicode/utf8.acceptRanges"], apart := false, laid := [("unicode/utf8.acceptRanges", laid_unicode_utf8_acceptRanges), ("unicode/utf8.first", laid_unicode_utf8_first)], narrowed := true }
def CodeCompilesUptoSaid : Prop := codeCompilesUptoRow.holds Tryd.pinned (OpenSpec.upto codeCompilesSpec)

/-- 'tarifflaw14.CodeVerifies', WHERE WHAT IT READS IS OF BULK AT MOST 1048576: true; the input reads as it did. -/
def codeVerifiesUptoRow : OpenClaim := { program := "ytnhmplfonkjfoaadoor", sum := "1a87fcfc95732123310090bc4de44a2c99b3621d9620d9236edb78bc6f07f7da", func := "tariff/tarifflaw14.CodeVerifies", spec := "codeVerifies", inPlace := ["math/bits.Add64"], unfollowed := true, recurses := true, named := ["math/bits.divideError", "math/bits.overflowError", "unicode/utf8.first", "unicode/utf8.acceptRanges"], apart := false, laid := [("unicode/utf8.acceptRanges", laid_unicode_utf8_acceptRanges), ("unicode/utf8.first", laid_unicode_utf8_first)], narrowed := true }
def CodeVerifiesUptoSaid : Prop := codeVerifiesUptoRow.holds Tryd.pinned (OpenSpec.upto codeVerifiesSpec)

/-- 'tarifflaw14.CodeBacks', WHERE WHAT IT READS IS OF BULK AT MOST 1048576: true; the input reads as it did. -/
def codeBacksUptoRow : OpenClaim := { program := "ytnhmplfonkjfoaadoor", sum := "1a87fcfc95732123310090bc4de44a2c99b3621d9620d9236edb78bc6f07f7da", func := "tariff/tarifflaw14.CodeBacks", spec := "codeBacks", inPlace := ["math/bits.Add64"], unfollowed := true, recurses := true, named := ["math/bits.divideError", "math/bits.overflowError", "unicode/utf8.first", "unicode/utf8.acceptRanges"], apart := false, laid := [("unicode/utf8.acceptRanges", laid_unicode_utf8_acceptRanges), ("unicode/utf8.first", laid_unicode_utf8_first)], narrowed := true }
def CodeBacksUptoSaid : Prop := codeBacksUptoRow.holds Tryd.pinned (OpenSpec.upto codeBacksSpec)

/-- 'tarifflaw14.CodeRound', WHERE WHAT IT READS IS OF BULK AT MOST 1048576: true; the input reads as it did. -/
def codeRoundUptoRow : OpenClaim := { program := "ytnhmplfonkjfoaadoor", sum := "1a87fcfc95732123310090bc4de44a2c99b3621d9620d9236edb78bc6f07f7da", func := "tariff/tarifflaw14.CodeRound", spec := "codeRound", inPlace := ["math/bits.Add64"], unfollowed := true, recurses := true, named := ["math/bits.divideError", "math/bits.overflowError", "unicode/utf8.first", "unicode/utf8.acceptRanges"], apart := false, laid := [("unicode/utf8.acceptRanges", laid_unicode_utf8_acceptRanges), ("unicode/utf8.first", laid_unicode_utf8_first)], narrowed := true }
def CodeRoundUptoSaid : Prop := codeRoundUptoRow.holds Tryd.pinned (OpenSpec.upto codeRoundSpec)

/-- 'tarifflaw14.CodeSound', WHERE WHAT IT READS IS OF BULK AT MOST 1048576: true; the input reads as it did. -/
def codeSoundUptoRow : OpenClaim := { program := "ytnhmplfonkjfoaadoor", sum := "1a87fcfc95732123310090bc4de44a2c99b3621d9620d9236edb78bc6f07f7da", func := "tariff/tarifflaw14.CodeSound", spec := "codeSound", inPlace := ["math/bits.Add64"], unfollowed := true, recurses := true, named := ["math/bits.divideError", "math/bits.overflowError", "unicode/utf8.first", "unicode/utf8.acceptRanges"], apart := false, laid := [("unicode/utf8.acceptRanges", laid_unicode_utf8_acceptRanges), ("unicode/utf8.first", laid_unicode_utf8_first)], narrowed := true }
def CodeSoundUptoSaid : Prop := codeSoundUptoRow.holds Tryd.pinned (OpenSpec.upto codeSoundSpec)

/-- 'tarifflaw14.CodeApart', WHERE WHAT IT READS IS OF BULK AT MOST 1048576: true; the input reads as it did. -/
def codeApartUptoRow : OpenClaim := { program := "ytnhmplfonkjfoaadoor", sum := "1a87fcfc95732123310090bc4de44a2c99b3621d9620d9236edb78bc6f07f7da", func := "tariff/tarifflaw14.CodeApart", spec := "codeApart", inPlace := ["math/bits.Add64"], unfollowed := true, recurses := true, named := ["math/bits.divideError", "math/bits.overflowError", "unicode/utf8.first", "unicode/utf8.acceptRanges"], apart := false, laid := [("unicode/utf8.acceptRanges", laid_unicode_utf8_acceptRanges), ("unicode/utf8.first", laid_unicode_utf8_first)], narrowed := true }
def CodeApartUptoSaid : Prop := codeApartUptoRow.holds Tryd.pinned (OpenSpec.upto codeApartSpec)

end Rows
end Go.Proofs.YtnhmplfonkjfoaaDoor
