/-
  No cell of these rows narrows 'for every input' (looked for: loops, veiled, ifaces, maps, wideKeys, modest, calm, conditions, laid).
  DERIVED. THE GIVEN ROWS OF THIS SEAT. 8 by the template 'for every input the law returns true; each argument reads behind the call as it read before'; 0 by the template 'total and deterministic' (their statements: YthkgjodidkpaeaaTotals.lean).
  GIVEN WITH THE SEED: the statements are not yours to turn. If you find one false, say at which input.
  Laid BY PROGRAM, IN A SANDBOX (cutbox-rows.mjs): the forced cells as the released guide's own fill.sh prints them over the translation 1f01a4cd4b6030ba… (all of the seat's roots in one cut). By AI agents, Wed Nov 11 2026. No macro, syntax, notation, axiom, sorry.
-/
import Derived.Test.YthkgjodidkpaeaaChecked
import GoSem.Claim
import GoSem.ClaimJoined
import GoSem.ClaimMapViews
import Derived.JoinedTies
import Derived.KernelRfl
namespace Go.Proofs.Ythkgjodidkpaeaa
/- THE CELL 'sum', in the pinned program and in every row, IS THE sha256 OF THE DUMP (.gsa) THAT YthkgjodidkpaeaaProg.lean LOADS. Nothing in Lean hashes anything: it is a label: what it is worth is what the hold of that sum in a sandbox is worth. -/
noncomputable def Try.pinned : Pinned := { name := "ythkgjodidkpaeaa", sum := "1f01a4cd4b6030baa767760a23d7cb7e3476b7a4f57fe28fa6bd514dd49c628b", checked := Try.checked }
namespace Rows
def none {H : Type} : Left H := { results := [], args := [] }

/-- 'tarifflaw02.DecOrders': WHATEVER THE INPUT: true; the input reads as it did. -/
def decOrdersSpec : ChangeSpec := { name := "decOrders", fn := fun _ => fun
  | [d1, d2, d3] => { results := [.lit (.bool true)], args := [d1, d2, d3] }
  | _ => none }
def decOrdersRow : OpenClaim := { program := "ythkgjodidkpaeaa", sum := "1f01a4cd4b6030baa767760a23d7cb7e3476b7a4f57fe28fa6bd514dd49c628b", func := "tariff/tarifflaw02.DecOrders", spec := "decOrders", inPlace := ["math/bits.Add64", "math/bits.Sub64"], named := ["math/bits.divideError", "math/bits.overflowError"], apart := false }
def DecOrdersSaid : Prop := decOrdersRow.holds Try.pinned (OpenSpec.ofChange decOrdersSpec)

/-- ITS FALSE NEIGHBOUR: 'it returns false'. Refute it at one input. -/
def decOrdersWrong : ChangeSpec := { name := "decOrders", fn := fun _ => fun
  | [d1, d2, d3] => { results := [.lit (.bool false)], args := [d1, d2, d3] }
  | _ => none }
def DecOrdersWrongFalsely : Prop := decOrdersRow.holds Try.pinned (OpenSpec.ofChange decOrdersWrong)

/-- 'tarifflaw02.DecForms': WHATEVER THE INPUT: true; the input reads as it did. -/
def decFormsSpec : ChangeSpec := { name := "decForms", fn := fun _ => fun
  | [d1, d2, d3] => { results := [.lit (.bool true)], args := [d1, d2, d3] }
  | _ => none }
def decFormsRow : OpenClaim := { program := "ythkgjodidkpaeaa", sum := "1f01a4cd4b6030baa767760a23d7cb7e3476b7a4f57fe28fa6bd514dd49c628b", func := "tariff/tarifflaw02.DecForms", spec := "decForms", inPlace := ["math/bits.Add64", "math/bits.Sub64"], named := ["math/bits.divideError", "math/bits.overflowError"], apart := false }
def DecFormsSaid : Prop := decFormsRow.holds Try.pinned (OpenSpec.ofChange decFormsSpec)

/-- ITS FALSE NEIGHBOUR: 'it returns false'. Refute it at one input. -/
def decFormsWrong : ChangeSpec := { name := "decForms", fn := fun _ => fun
  | [d1, d2, d3] => { results := [.lit (.bool false)], args := [d1, d2, d3] }
  | _ => none }
def DecFormsWrongFalsely : Prop := decFormsRow.holds Try.pinned (OpenSpec.ofChange decFormsWrong)

/-- 'tarifflaw02.DecSums': WHATEVER THE INPUT: true; the input reads as it did. -/
def decSumsSpec : ChangeSpec := { name := "decSums", fn := fun _ => fun
  | [d1, d2] => { results := [.lit (.bool true)], args := [d1, d2] }
  | _ => none }
def decSumsRow : OpenClaim := { program := "ythkgjodidkpaeaa", sum := "1f01a4cd4b6030baa767760a23d7cb7e3476b7a4f57fe28fa6bd514dd49c628b", func := "tariff/tarifflaw02.DecSums", spec := "decSums", inPlace := ["math/bits.Add64", "math/bits.Sub64"], named := ["math/bits.divideError", "math/bits.overflowError"], apart := false }
def DecSumsSaid : Prop := decSumsRow.holds Try.pinned (OpenSpec.ofChange decSumsSpec)

/-- ITS FALSE NEIGHBOUR: 'it returns false'. Refute it at one input. -/
def decSumsWrong : ChangeSpec := { name := "decSums", fn := fun _ => fun
  | [d1, d2] => { results := [.lit (.bool false)], args := [d1, d2] }
  | _ => none }
def DecSumsWrongFalsely : Prop := decSumsRow.holds Try.pinned (OpenSpec.ofChange decSumsWrong)

/-- 'tarifflaw02.DecNeighbours': WHATEVER THE INPUT: true; the input reads as it did. -/
def decNeighboursSpec : ChangeSpec := { name := "decNeighbours", fn := fun _ => fun
  | [d] => { results := [.lit (.bool true)], args := [d] }
  | _ => none }
def decNeighboursRow : OpenClaim := { program := "ythkgjodidkpaeaa", sum := "1f01a4cd4b6030baa767760a23d7cb7e3476b7a4f57fe28fa6bd514dd49c628b", func := "tariff/tarifflaw02.DecNeighbours", spec := "decNeighbours", inPlace := ["math/bits.Add64", "math/bits.Sub64"], named := ["math/bits.divideError", "math/bits.overflowError"], apart := false }
def DecNeighboursSaid : Prop := decNeighboursRow.holds Try.pinned (OpenSpec.ofChange decNeighboursSpec)

/-- ITS FALSE NEIGHBOUR: 'it returns false'. Refute it at one input. -/
def decNeighboursWrong : ChangeSpec := { name := "decNeighbours", fn := fun _ => fun
  | [d] => { results := [.lit (.bool false)], args := [d] }
  | _ => none }
def DecNeighboursWrongFalsely : Prop := decNeighboursRow.holds Try.pinned (OpenSpec.ofChange decNeighboursWrong)

/-- 'tarifflaw02.DecBetween': WHATEVER THE INPUT: true; the input reads as it did. -/
def decBetweenSpec : ChangeSpec := { name := "decBetween", fn := fun _ => fun
  | [d1, d2] => { results := [.lit (.bool true)], args := [d1, d2] }
  | _ => none }
def decBetweenRow : OpenClaim := { program := "ythkgjodidkpaeaa", sum := "1f01a4cd4b6030baa767760a23d7cb7e3476b7a4f57fe28fa6bd514dd49c628b", func := "tariff/tarifflaw02.DecBetween", spec := "decBetween", inPlace := ["math/bits.Add64", "math/bits.Sub64"], named := ["math/bits.divideError", "math/bits.overflowError"], apart := false }
def DecBetweenSaid : Prop := decBetweenRow.holds Try.pinned (OpenSpec.ofChange decBetweenSpec)

/-- ITS FALSE NEIGHBOUR: 'it returns false'. Refute it at one input. -/
def decBetweenWrong : ChangeSpec := { name := "decBetween", fn := fun _ => fun
  | [d1, d2] => { results := [.lit (.bool false)], args := [d1, d2] }
  | _ => none }
def DecBetweenWrongFalsely : Prop := decBetweenRow.holds Try.pinned (OpenSpec.ofChange decBetweenWrong)

/-- 'tarifflaw02.DecRounds': WHATEVER THE INPUT: true; the input reads as it did. -/
def decRoundsSpec : ChangeSpec := { name := "decRounds", fn := fun _ => fun
  | [d1, d2] => { results := [.lit (.bool true)], args := [d1, d2] }
  | _ => none }
def decRoundsRow : OpenClaim := { program := "ythkgjodidkpaeaa", sum := "1f01a4cd4b6030baa767760a23d7cb7e3476b7a4f57fe28fa6bd514dd49c628b", func := "tariff/tarifflaw02.DecRounds", spec := "decRounds", inPlace := ["math/bits.Add64", "math/bits.Sub64"], named := ["math/bits.divideError", "math/bits.overflowError"], apart := false }
def DecRoundsSaid : Prop := decRoundsRow.holds Try.pinned (OpenSpec.ofChange decRoundsSpec)

/-- ITS FALSE NEIGHBOUR: 'it returns false'. Refute it at one input. -/
def decRoundsWrong : ChangeSpec := { name := "decRounds", fn := fun _ => fun
  | [d1, d2] => { results := [.lit (.bool false)], args := [d1, d2] }
  | _ => none }
def DecRoundsWrongFalsely : Prop := decRoundsRow.holds Try.pinned (OpenSpec.ofChange decRoundsWrong)

/-- 'tarifflaw02.DecProducts': WHATEVER THE INPUT: true; the input reads as it did. -/
def decProductsSpec : ChangeSpec := { name := "decProducts", fn := fun _ => fun
  | [d1, d2] => { results := [.lit (.bool true)], args := [d1, d2] }
  | _ => none }
def decProductsRow : OpenClaim := { program := "ythkgjodidkpaeaa", sum := "1f01a4cd4b6030baa767760a23d7cb7e3476b7a4f57fe28fa6bd514dd49c628b", func := "tariff/tarifflaw02.DecProducts", spec := "decProducts", inPlace := ["math/bits.Add64", "math/bits.Sub64"], named := ["math/bits.divideError", "math/bits.overflowError"], apart := false }
def DecProductsSaid : Prop := decProductsRow.holds Try.pinned (OpenSpec.ofChange decProductsSpec)

/-- ITS FALSE NEIGHBOUR: 'it returns false'. Refute it at one input. -/
def decProductsWrong : ChangeSpec := { name := "decProducts", fn := fun _ => fun
  | [d1, d2] => { results := [.lit (.bool false)], args := [d1, d2] }
  | _ => none }
def DecProductsWrongFalsely : Prop := decProductsRow.holds Try.pinned (OpenSpec.ofChange decProductsWrong)

/-- 'tarifflaw02.DecParts': WHATEVER THE INPUT: true; the input reads as it did. -/
def decPartsSpec : ChangeSpec := { name := "decParts", fn := fun _ => fun
  | [d1, d2] => { results := [.lit (.bool true)], args := [d1, d2] }
  | _ => none }
def decPartsRow : OpenClaim := { program := "ythkgjodidkpaeaa", sum := "1f01a4cd4b6030baa767760a23d7cb7e3476b7a4f57fe28fa6bd514dd49c628b", func := "tariff/tarifflaw02.DecParts", spec := "decParts", inPlace := ["math/bits.Add64", "math/bits.Sub64"], named := ["math/bits.divideError", "math/bits.overflowError"], apart := false }
def DecPartsSaid : Prop := decPartsRow.holds Try.pinned (OpenSpec.ofChange decPartsSpec)

/-- ITS FALSE NEIGHBOUR: 'it returns false'. Refute it at one input. -/
def decPartsWrong : ChangeSpec := { name := "decParts", fn := fun _ => fun
  | [d1, d2] => { results := [.lit (.bool false)], args := [d1, d2] }
  | _ => none }
def DecPartsWrongFalsely : Prop := decPartsRow.holds Try.pinned (OpenSpec.ofChange decPartsWrong)

/- THE SECOND FORM. 'bulk': how many values and letters a reading holds, each counted each time it is reached (what is shared counts as often as it is met; a slice's spare places count too). A statement '..UptoSaid' is the law's where the arguments, and the package variables that the reading takes, are together of bulk at most 1048576: NARROWER than '..Said'. Prove '..Said' where nothing that the law and all that it calls make is longer than what came in: it says more and counts as full. Else prove '..UptoSaid'. A law counts once. -/
mutual
def uptoBulk {H : Type} : DataW H → Nat
  | .lit (.string bytes) => bytes.length + 1
  | .lit _ => 1
  | .nil => 1
  | .ptr d => uptoBulk d + 1
  | .slice elems spare => uptoBulkAll elems + uptoBulkAll spare + 1
  | .agg parts => uptoBulkAll parts + 1
  | .iface _ d => uptoBulk d + 1
  | .map entries => uptoBulkEntries entries + 1
  | .held _ => 1
def uptoBulkAll {H : Type} : List (DataW H) → Nat
  | [] => 0
  | d :: r => uptoBulk d + uptoBulkAll r
def uptoBulkEntries {H : Type} : List (Lit × DataW H) → Nat
  | [] => 0
  | x :: r => uptoBulkEntry x + uptoBulkEntries r
def uptoBulkEntry {H : Type} : Lit × DataW H → Nat
  | (.string bytes, d) => bytes.length + uptoBulk d + 1
  | (_, d) => uptoBulk d + 1
 end
def uptoSmall : (H : Type) → List (DataW H) → Bool := fun _ ds => decide (uptoBulkAll ds ≤ 1048576)
def OpenSpec.upto (s : _root_.Go.ChangeSpec) : _root_.Go.OpenSpec := { _root_.Go.OpenSpec.ofChange s with cond := some uptoSmall }

/-- 'tarifflaw02.DecOrders', WHERE WHAT IT READS IS OF BULK AT MOST 1048576: true; the input reads as it did. -/
def decOrdersUptoRow : OpenClaim := { program := "ythkgjodidkpaeaa", sum := "1f01a4cd4b6030baa767760a23d7cb7e3476b7a4f57fe28fa6bd514dd49c628b", func := "tariff/tarifflaw02.DecOrders", spec := "decOrders", inPlace := ["math/bits.Add64", "math/bits.Sub64"], named := ["math/bits.divideError", "math/bits.overflowError"], apart := false, narrowed := true }
def DecOrdersUptoSaid : Prop := decOrdersUptoRow.holds Try.pinned (OpenSpec.upto decOrdersSpec)

/-- 'tarifflaw02.DecForms', WHERE WHAT IT READS IS OF BULK AT MOST 1048576: true; the input reads as it did. -/
def decFormsUptoRow : OpenClaim := { program := "ythkgjodidkpaeaa", sum := "1f01a4cd4b6030baa767760a23d7cb7e3476b7a4f57fe28fa6bd514dd49c628b", func := "tariff/tarifflaw02.DecForms", spec := "decForms", inPlace := ["math/bits.Add64", "math/bits.Sub64"], named := ["math/bits.divideError", "math/bits.overflowError"], apart := false, narrowed := true }
def DecFormsUptoSaid : Prop := decFormsUptoRow.holds Try.pinned (OpenSpec.upto decFormsSpec)

/-- 'tarifflaw02.DecSums', WHERE WHAT IT READS IS OF BULK AT MOST 1048576: true; the input reads as it did. -/
def decSumsUptoRow : OpenClaim := { program := "ythkgjodidkpaeaa", sum := "1f01a4cd4b6030baa767760a23d7cb7e3476b7a4f57fe28fa6bd514dd49c628b", func := "tariff/tarifflaw02.DecSums", spec := "decSums", inPlace := ["math/bits.Add64", "math/bits.Sub64"], named := ["math/bits.divideError", "math/bits.overflowError"], apart := false, narrowed := true }
def DecSumsUptoSaid : Prop := decSumsUptoRow.holds Try.pinned (OpenSpec.upto decSumsSpec)

/-- 'tarifflaw02.DecNeighbours', WHERE WHAT IT READS IS OF BULK AT MOST 1048576: true; the input reads as it did. -/
def decNeighboursUptoRow : OpenClaim := { program := "ythkgjodidkpaeaa", sum := "1f01a4cd4b6030baa767760a23d7cb7e3476b7a4f57fe28fa6bd514dd49c628b", func := "tariff/tarifflaw02.DecNeighbours", spec := "decNeighbours", inPlace := ["math/bits.Add64", "math/bits.Sub64"], named := ["math/bits.divideError", "math/bits.overflowError"], apart := false, narrowed := true }
def DecNeighboursUptoSaid : Prop := decNeighboursUptoRow.holds Try.pinned (OpenSpec.upto decNeighboursSpec)

/-- 'tarifflaw02.DecBetween', WHERE WHAT IT READS IS OF BULK AT MOST 1048576: true; the input reads as it did. -/
def decBetweenUptoRow : OpenClaim := { program := "ythkgjodidkpaeaa", sum := "1f01a4cd4b6030baa767760a23d7cb7e3476b7a4f57fe28fa6bd514dd49c628b", func := "tariff/tarifflaw02.DecBetween", spec := "decBetween", inPlace := ["math/bits.Add64", "math/bits.Sub64"], named := ["math/bits.divideError", "math/bits.overflowError"], apart := false, narrowed := true }
def DecBetweenUptoSaid : Prop := decBetweenUptoRow.holds Try.pinned (OpenSpec.upto decBetweenSpec)

/-- 'tarifflaw02.DecRounds', WHERE WHAT IT READS IS OF BULK AT MOST 1048576: true; the input reads as it did. -/
def decRoundsUptoRow : OpenClaim := { program := "ythkgjodidkpaeaa", sum := "1f01a4cd4b6030baa767760a23d7cb7e3476b7a4f57fe28fa6bd514dd49c628b", func := "tariff/tarifflaw02.DecRounds", spec := "decRounds", inPlace := ["math/bits.Add64", "math/bits.Sub64"], named := ["math/bits.divideError", "math/bits.overflowError"], apart := false, narrowed := true }
def DecRoundsUptoSaid : Prop := decRoundsUptoRow.holds Try.pinned (OpenSpec.upto decRoundsSpec)

/-- 'tarifflaw02.DecProducts', WHERE WHAT IT READS IS OF BULK AT MOST 1048576: true; the input reads as it did. -/
def decProductsUptoRow : OpenClaim := { program := "ythkgjodidkpaeaa", sum := "1f01a4cd4b6030baa767760a23d7cb7e3476b7a4f57fe28fa6bd514dd49c628b", func := "tariff/tarifflaw02.DecProducts", spec := "decProducts", inPlace := ["math/bits.Add64", "math/bits.Sub64"], named := ["math/bits.divideError", "math/bits.overflowError"], apart := false, narrowed := true }
def DecProductsUptoSaid : Prop := decProductsUptoRow.holds Try.pinned (OpenSpec.upto decProductsSpec)

/-- 'tarifflaw02.DecParts', WHERE WHAT IT READS IS OF BULK AT MOST 1048576: true; the input reads as it did. -/
def decPartsUptoRow : OpenClaim := { program := "ythkgjodidkpaeaa", sum := "1f01a4cd4b6030baa767760a23d7cb7e3476b7a4f57fe28fa6bd514dd49c628b", func := "tariff/tarifflaw02.DecParts", spec := "decParts", inPlace := ["math/bits.Add64", "math/bits.Sub64"], named := ["math/bits.divideError", "math/bits.overflowError"], apart := false, narrowed := true }
def DecPartsUptoSaid : Prop := decPartsUptoRow.holds Try.pinned (OpenSpec.upto decPartsSpec)

end Rows
end Go.Proofs.Ythkgjodidkpaeaa
