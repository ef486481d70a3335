/- A walk goes on from a world of which only some things are kept. -/
import Derived.Test.YtlpoopmjgobnnaaBase
set_option linter.unusedSimpArgs false
set_option linter.unusedVariables false
namespace Go.Proofs.Ytlpoopmjgobnnaa
open Go.RowKit
theorem wp_named {F : World → Prop} {w : World} (R : World → Prop) (hR : R w) (h : ∀ W, R W → F W) : F w := h w hR
theorem calls_named {P : Program} {f : FuncId} {args : Array Value} {K : Ending → World → Prop} {w : World} (R : World → Prop) (hR : R w) (h : ∀ W, R W → Calls P f args W K) : Calls P f args w K := h w hR
end Go.Proofs.Ytlpoopmjgobnnaa
