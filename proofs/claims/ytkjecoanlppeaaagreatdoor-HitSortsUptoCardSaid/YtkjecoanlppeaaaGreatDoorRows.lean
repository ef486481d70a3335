/-
  NARROWER THAN 'FOR EVERY INPUT', by the rows' own cells (each row's printed sentence says how): HitDecides: loops, laid · HitSingles: loops, laid · HitLists: loops, laid · HitSorts: loops, laid · HitSigns: laid · HitNumbers: loops, laid.
  DERIVED. THE GIVEN ROWS OF THIS SEAT. 6 by the template 'for every input the law returns true; each argument reads behind the call as it read before'; 0 by the template 'total and deterministic' (their statements: YtkjecoanlppeaaaGreatDoorTotals.lean).
  GIVEN WITH THE SEED: the statements are not yours to turn. If you find one false, say at which input.
  Laid BY PROGRAM, IN A SANDBOX (cutbox-rows.mjs): the forced cells as the released guide's own fill.sh prints them over the translation 6768549a8b98c54e… (all of the seat's roots in one cut). By AI agents, Wed Nov 11 2026. No macro, syntax, notation, axiom, sorry.
-/
import Derived.Test.YtkjecoanlppeaaaGreatDoorChecked
import GoSem.PinnedTables
import GoSem.Claim
import GoSem.ClaimJoined
import GoSem.ClaimMapViews
import Derived.JoinedTies
import Derived.KernelRfl
namespace Go.Proofs.YtkjecoanlppeaaaGreatDoor
/- THE CELL 'sum', in the pinned program and in every row, IS THE sha256 OF THE DUMP (.gsa) THAT YtkjecoanlppeaaaGreatDoorProg.lean LOADS. Nothing in Lean hashes anything: it is a label: what it is worth is what the hold of that sum in a sandbox is worth. -/
noncomputable def Tryz.pinned : Pinned := { name := "ytkjecoanlppeaaagreatdoor", sum := "6768549a8b98c54e5995fb9400e9da830e3a6408168c321502b7caf7fe1188ee", checked := Tryz.checked }
namespace Rows
def none {H : Type} : Left H := { results := [], args := [] }

/- WHAT THE LISTED PACKAGE-LEVEL VARIABLES READ AS WHEN THE CALL BEGINS. Each datum BY PROGRAM (the guide's laid-datum.mjs) off the statement by which the dump's own 'gosem.cut.vars' lays the variable. In a bare row this is a premise. The card (YtkjecoanlppeaaaGreatDoorCards.lean) ties it to the program's text. -/
def laid_unicode_utf8_acceptRanges {H : Type} : DataW H := .agg [.agg [.lit (.int .u8 128), .lit (.int .u8 191)], .agg [.lit (.int .u8 160), .lit (.int .u8 191)], .agg [.lit (.int .u8 128), .lit (.int .u8 159)], .agg [.lit (.int .u8 144), .lit (.int .u8 191)], .agg [.lit (.int .u8 128), .lit (.int .u8 143)], .agg [.lit (.int .u8 0), .lit (.int .u8 0)], .agg [.lit (.int .u8 0), .lit (.int .u8 0)], .agg [.lit (.int .u8 0), .lit (.int .u8 0)], .agg [.lit (.int .u8 0), .lit (.int .u8 0)], .agg [.lit (.int .u8 0), .lit (.int .u8 0)], .agg [.lit (.int .u8 0), .lit (.int .u8 0)], .agg [.lit (.int .u8 0), .lit (.int .u8 0)], .agg [.lit (.int .u8 0), .lit (.int .u8 0)], .agg [.lit (.int .u8 0), .lit (.int .u8 0)], .agg [.lit (.int .u8 0), .lit (.int .u8 0)], .agg [.lit (.int .u8 0), .lit (.int .u8 0)]]
/-- One of Go's own tables, pinned by name: the form's constant. -/
def laid_unicode_utf8_first : DataW Unit := Go.Pinned.utf8First

/-- 'tarifflaw18.HitDecides': WHATEVER THE INPUT: true; the input reads as it did. -/
def hitDecidesSpec : ChangeSpec := { name := "hitDecides", fn := fun _ => fun
  | [d1, d2] => { results := [.lit (.bool true)], args := [d1, d2] }
  | _ => none }
def hitDecidesRow : OpenClaim := { program := "ytkjecoanlppeaaagreatdoor", sum := "6768549a8b98c54e5995fb9400e9da830e3a6408168c321502b7caf7fe1188ee", func := "tariff/tarifflaw18.HitDecides", spec := "hitDecides", inPlace := ["math/bits.Add64", "math/bits.Sub64"], unfollowed := true, recurses := true, named := ["math/bits.divideError", "math/bits.overflowError", "unicode/utf8.first", "unicode/utf8.acceptRanges"], loops := true, apart := false, laid := [("unicode/utf8.acceptRanges", laid_unicode_utf8_acceptRanges), ("unicode/utf8.first", laid_unicode_utf8_first)] }
def HitDecidesSaid : Prop := hitDecidesRow.holds Tryz.pinned (OpenSpec.ofChange hitDecidesSpec)

/-- ITS FALSE NEIGHBOUR: 'it returns false'. Refute it at one input. -/
def hitDecidesWrong : ChangeSpec := { name := "hitDecides", fn := fun _ => fun
  | [d1, d2] => { results := [.lit (.bool false)], args := [d1, d2] }
  | _ => none }
def HitDecidesWrongFalsely : Prop := hitDecidesRow.holds Tryz.pinned (OpenSpec.ofChange hitDecidesWrong)

/-- 'tarifflaw18.HitSingles': WHATEVER THE INPUT: true; the input reads as it did. -/
def hitSinglesSpec : ChangeSpec := { name := "hitSingles", fn := fun _ => fun
  | [d] => { results := [.lit (.bool true)], args := [d] }
  | _ => none }
def hitSinglesRow : OpenClaim := { program := "ytkjecoanlppeaaagreatdoor", sum := "6768549a8b98c54e5995fb9400e9da830e3a6408168c321502b7caf7fe1188ee", func := "tariff/tarifflaw18.HitSingles", spec := "hitSingles", inPlace := ["math/bits.Add64", "math/bits.Sub64"], unfollowed := true, recurses := true, named := ["math/bits.divideError", "math/bits.overflowError", "unicode/utf8.first", "unicode/utf8.acceptRanges"], loops := true, apart := false, laid := [("unicode/utf8.acceptRanges", laid_unicode_utf8_acceptRanges), ("unicode/utf8.first", laid_unicode_utf8_first)] }
def HitSinglesSaid : Prop := hitSinglesRow.holds Tryz.pinned (OpenSpec.ofChange hitSinglesSpec)

/-- ITS FALSE NEIGHBOUR: 'it returns false'. Refute it at one input. -/
def hitSinglesWrong : ChangeSpec := { name := "hitSingles", fn := fun _ => fun
  | [d] => { results := [.lit (.bool false)], args := [d] }
  | _ => none }
def HitSinglesWrongFalsely : Prop := hitSinglesRow.holds Tryz.pinned (OpenSpec.ofChange hitSinglesWrong)

/-- 'tarifflaw18.HitLists': WHATEVER THE INPUT: true; the input reads as it did. -/
def hitListsSpec : ChangeSpec := { name := "hitLists", fn := fun _ => fun
  | [d] => { results := [.lit (.bool true)], args := [d] }
  | _ => none }
def hitListsRow : OpenClaim := { program := "ytkjecoanlppeaaagreatdoor", sum := "6768549a8b98c54e5995fb9400e9da830e3a6408168c321502b7caf7fe1188ee", func := "tariff/tarifflaw18.HitLists", spec := "hitLists", inPlace := ["math/bits.Add64", "math/bits.Sub64"], unfollowed := true, recurses := true, named := ["math/bits.divideError", "math/bits.overflowError", "unicode/utf8.first", "unicode/utf8.acceptRanges"], loops := true, apart := false, laid := [("unicode/utf8.acceptRanges", laid_unicode_utf8_acceptRanges), ("unicode/utf8.first", laid_unicode_utf8_first)] }
def HitListsSaid : Prop := hitListsRow.holds Tryz.pinned (OpenSpec.ofChange hitListsSpec)

/-- ITS FALSE NEIGHBOUR: 'it returns false'. Refute it at one input. -/
def hitListsWrong : ChangeSpec := { name := "hitLists", fn := fun _ => fun
  | [d] => { results := [.lit (.bool false)], args := [d] }
  | _ => none }
def HitListsWrongFalsely : Prop := hitListsRow.holds Tryz.pinned (OpenSpec.ofChange hitListsWrong)

/-- 'tarifflaw18.HitSorts': WHATEVER THE INPUT: true; the input reads as it did. -/
def hitSortsSpec : ChangeSpec := { name := "hitSorts", fn := fun _ => fun
  | [d] => { results := [.lit (.bool true)], args := [d] }
  | _ => none }
def hitSortsRow : OpenClaim := { program := "ytkjecoanlppeaaagreatdoor", sum := "6768549a8b98c54e5995fb9400e9da830e3a6408168c321502b7caf7fe1188ee", func := "tariff/tarifflaw18.HitSorts", spec := "hitSorts", inPlace := ["math/bits.Add64", "math/bits.Sub64"], unfollowed := true, recurses := true, named := ["math/bits.divideError", "math/bits.overflowError", "unicode/utf8.first", "unicode/utf8.acceptRanges"], loops := true, apart := false, laid := [("unicode/utf8.acceptRanges", laid_unicode_utf8_acceptRanges), ("unicode/utf8.first", laid_unicode_utf8_first)] }
def HitSortsSaid : Prop := hitSortsRow.holds Tryz.pinned (OpenSpec.ofChange hitSortsSpec)

/-- ITS FALSE NEIGHBOUR: 'it returns false'. Refute it at one input. -/
def hitSortsWrong : ChangeSpec := { name := "hitSorts", fn := fun _ => fun
  | [d] => { results := [.lit (.bool false)], args := [d] }
  | _ => none }
def HitSortsWrongFalsely : Prop := hitSortsRow.holds Tryz.pinned (OpenSpec.ofChange hitSortsWrong)

/-- 'tarifflaw18.HitSigns': WHATEVER THE INPUT: true; the input reads as it did. -/
def hitSignsSpec : ChangeSpec := { name := "hitSigns", fn := fun _ => fun
  | [d1, d2] => { results := [.lit (.bool true)], args := [d1, d2] }
  | _ => none }
def hitSignsRow : OpenClaim := { program := "ytkjecoanlppeaaagreatdoor", sum := "6768549a8b98c54e5995fb9400e9da830e3a6408168c321502b7caf7fe1188ee", func := "tariff/tarifflaw18.HitSigns", spec := "hitSigns", inPlace := ["math/bits.Add64", "math/bits.Sub64"], unfollowed := true, recurses := true, named := ["math/bits.divideError", "math/bits.overflowError", "unicode/utf8.first", "unicode/utf8.acceptRanges"], apart := false, laid := [("unicode/utf8.acceptRanges", laid_unicode_utf8_acceptRanges), ("unicode/utf8.first", laid_unicode_utf8_first)] }
def HitSignsSaid : Prop := hitSignsRow.holds Tryz.pinned (OpenSpec.ofChange hitSignsSpec)

/-- ITS FALSE NEIGHBOUR: 'it returns false'. Refute it at one input. -/
def hitSignsWrong : ChangeSpec := { name := "hitSigns", fn := fun _ => fun
  | [d1, d2] => { results := [.lit (.bool false)], args := [d1, d2] }
  | _ => none }
def HitSignsWrongFalsely : Prop := hitSignsRow.holds Tryz.pinned (OpenSpec.ofChange hitSignsWrong)

/-- 'tarifflaw18.HitNumbers': WHATEVER THE INPUT: true; the input reads as it did. -/
def hitNumbersSpec : ChangeSpec := { name := "hitNumbers", fn := fun _ => fun
  | [d] => { results := [.lit (.bool true)], args := [d] }
  | _ => none }
def hitNumbersRow : OpenClaim := { program := "ytkjecoanlppeaaagreatdoor", sum := "6768549a8b98c54e5995fb9400e9da830e3a6408168c321502b7caf7fe1188ee", func := "tariff/tarifflaw18.HitNumbers", spec := "hitNumbers", inPlace := ["math/bits.Add64", "math/bits.Sub64"], unfollowed := true, recurses := true, named := ["math/bits.divideError", "math/bits.overflowError", "unicode/utf8.first", "unicode/utf8.acceptRanges"], loops := true, apart := false, laid := [("unicode/utf8.acceptRanges", laid_unicode_utf8_acceptRanges), ("unicode/utf8.first", laid_unicode_utf8_first)] }
def HitNumbersSaid : Prop := hitNumbersRow.holds Tryz.pinned (OpenSpec.ofChange hitNumbersSpec)

/-- ITS FALSE NEIGHBOUR: 'it returns false'. Refute it at one input. -/
def hitNumbersWrong : ChangeSpec := { name := "hitNumbers", fn := fun _ => fun
  | [d] => { results := [.lit (.bool false)], args := [d] }
  | _ => none }
def HitNumbersWrongFalsely : Prop := hitNumbersRow.holds Tryz.pinned (OpenSpec.ofChange hitNumbersWrong)

/- THE SECOND FORM. 'bulk': how many values and letters a reading holds, each counted each time it is reached (what is shared counts as often as it is met; a slice's spare places count too). A statement '..UptoSaid' is the law's where the arguments, and the package variables that the reading takes, are together of bulk at most 1048576: NARROWER than '..Said'. Prove '..Said' where nothing that the law and all that it calls make is longer than what came in: it says more and counts as full. Else prove '..UptoSaid'. A law counts once. -/
mutual
def uptoBulk {H : Type} : DataW H → Nat
  | .lit (.string bytes) => bytes.length + 1
  | .lit _ => 1
  | .nil => 1
  | .ptr d => uptoBulk d + 1
  | .slice elems spare => uptoBulkAll elems + uptoBulkAll spare + 1
  | .agg parts => uptoBulkAll parts + 1
  | .iface _ d => uptoBulk d + 1
  | .map entries => uptoBulkEntries entries + 1
  | .held _ => 1
def uptoBulkAll {H : Type} : List (DataW H) → Nat
  | [] => 0
  | d :: r => uptoBulk d + uptoBulkAll r
def uptoBulkEntries {H : Type} : List (Lit × DataW H) → Nat
  | [] => 0
  | x :: r => uptoBulkEntry x + uptoBulkEntries r
def uptoBulkEntry {H : Type} : Lit × DataW H → Nat
  | (.string bytes, d) => bytes.length + uptoBulk d + 1
  | (_, d) => uptoBulk d + 1
 end
def uptoSmall : (H : Type) → List (DataW H) → Bool := fun _ ds => decide (uptoBulkAll ds ≤ 1048576)
def OpenSpec.upto (s : _root_.Go.ChangeSpec) : _root_.Go.OpenSpec := { _root_.Go.OpenSpec.ofChange s with cond := some uptoSmall }

/-- 'tarifflaw18.HitDecides', WHERE WHAT IT READS IS OF BULK AT MOST 1048576: true; the input reads as it did. -/
def hitDecidesUptoRow : OpenClaim := { program := "ytkjecoanlppeaaagreatdoor", sum := "6768549a8b98c54e5995fb9400e9da830e3a6408168c321502b7caf7fe1188ee", func := "tariff/tarifflaw18.HitDecides", spec := "hitDecides", inPlace := ["math/bits.Add64", "math/bits.Sub64"], unfollowed := true, recurses := true, named := ["math/bits.divideError", "math/bits.overflowError", "unicode/utf8.first", "unicode/utf8.acceptRanges"], loops := true, apart := false, laid := [("unicode/utf8.acceptRanges", laid_unicode_utf8_acceptRanges), ("unicode/utf8.first", laid_unicode_utf8_first)], narrowed := true }
def HitDecidesUptoSaid : Prop := hitDecidesUptoRow.holds Tryz.pinned (OpenSpec.upto hitDecidesSpec)

/-- 'tarifflaw18.HitSingles', WHERE WHAT IT READS IS OF BULK AT MOST 1048576: true; the input reads as it did. -/
def hitSinglesUptoRow : OpenClaim := { program := "ytkjecoanlppeaaagreatdoor", sum := "6768549a8b98c54e5995fb9400e9da830e3a6408168c321502b7caf7fe1188ee", func := "tariff/tarifflaw18.HitSingles", spec := "hitSingles", inPlace := ["math/bits.Add64", "math/bits.Sub64"], unfollowed := true, recurses := true, named := ["math/bits.divideError", "math/bits.overflowError", "unicode/utf8.first", "unicode/utf8.acceptRanges"], loops := true, apart := false, laid := [("unicode/utf8.acceptRanges", laid_unicode_utf8_acceptRanges), ("unicode/utf8.first", laid_unicode_utf8_first)], narrowed := true }
def HitSinglesUptoSaid : Prop := hitSinglesUptoRow.holds Tryz.pinned (OpenSpec.upto hitSinglesSpec)

/-- 'tarifflaw18.HitLists', WHERE WHAT IT READS IS OF BULK AT MOST 1048576: true; the input reads as it did. -/
def hitListsUptoRow : OpenClaim := { program := "ytkjecoanlppeaaagreatdoor", sum := "6768549a8b98c54e5995fb9400e9da830e3a6408168c321502b7caf7fe1188ee", func := "tariff/tarifflaw18.HitLists", spec := "hitLists", inPlace := ["math/bits.Add64", "math/bits.Sub64"], unfollowed := true, recurses := true, named := ["math/bits.divideError", "math/bits.overflowError", "unicode/utf8.first", "unicode/utf8.acceptRanges"], loops := true, apart := false, laid := [("unicode/utf8.acceptRanges", laid_unicode_utf8_acceptRanges), ("unicode/utf8.first", laid_unicode_utf8_first)], narrowed := true }
def HitListsUptoSaid : Prop := hitListsUptoRow.holds Tryz.pinned (OpenSpec.upto hitListsSpec)

/-- 'tarifflaw18.HitSorts', WHERE WHAT IT READS IS OF BULK AT MOST 1048576: true; the input reads as it did. -/
def hitSortsUptoRow : OpenClaim := { program := "ytkjecoanlppeaaagreatdoor", sum := "6768549a8b98c54e5995fb9400e9da830e3a6408168c321502b7caf7fe1188ee", func := "tariff/tarifflaw18.HitSorts", spec := "hitSorts", inPlace := ["math/bits.Add64", "math/bits.Sub64"], unfollowed := true, recurses := true, named := ["math/bits.divideError", "math/bits.overflowError", "unicode/utf8.first", "unicode/utf8.acceptRanges"], loops := true, apart := false, laid := [("unicode/utf8.acceptRanges", laid_unicode_utf8_acceptRanges), ("unicode/utf8.first", laid_unicode_utf8_first)], narrowed := true }
def HitSortsUptoSaid : Prop := hitSortsUptoRow.holds Tryz.pinned (OpenSpec.upto hitSortsSpec)

/-- 'tarifflaw18.HitSigns', WHERE WHAT IT READS IS OF BULK AT MOST 1048576: true; the input reads as it did. -/
def hitSignsUptoRow : OpenClaim := { program := "ytkjecoanlppeaaagreatdoor", sum := "6768549a8b98c54e5995fb9400e9da830e3a6408168c321502b7caf7fe1188ee", func := "tariff/tarifflaw18.HitSigns", spec := "hitSigns", inPlace := ["math/bits.Add64", "math/bits.Sub64"], unfollowed := true, recurses := true, named := ["math/bits.divideError", "math/bits.overflowError", "unicode/utf8.first", "unicode/utf8.acceptRanges"], apart := false, laid := [("unicode/utf8.acceptRanges", laid_unicode_utf8_acceptRanges), ("unicode/utf8.first", laid_unicode_utf8_first)], narrowed := true }
def HitSignsUptoSaid : Prop := hitSignsUptoRow.holds Tryz.pinned (OpenSpec.upto hitSignsSpec)

/-- 'tarifflaw18.HitNumbers', WHERE WHAT IT READS IS OF BULK AT MOST 1048576: true; the input reads as it did. -/
def hitNumbersUptoRow : OpenClaim := { program := "ytkjecoanlppeaaagreatdoor", sum := "6768549a8b98c54e5995fb9400e9da830e3a6408168c321502b7caf7fe1188ee", func := "tariff/tarifflaw18.HitNumbers", spec := "hitNumbers", inPlace := ["math/bits.Add64", "math/bits.Sub64"], unfollowed := true, recurses := true, named := ["math/bits.divideError", "math/bits.overflowError", "unicode/utf8.first", "unicode/utf8.acceptRanges"], loops := true, apart := false, laid := [("unicode/utf8.acceptRanges", laid_unicode_utf8_acceptRanges), ("unicode/utf8.first", laid_unicode_utf8_first)], narrowed := true }
def HitNumbersUptoSaid : Prop := hitNumbersUptoRow.holds Tryz.pinned (OpenSpec.upto hitNumbersSpec)

end Rows
end Go.Proofs.YtkjecoanlppeaaaGreatDoor
