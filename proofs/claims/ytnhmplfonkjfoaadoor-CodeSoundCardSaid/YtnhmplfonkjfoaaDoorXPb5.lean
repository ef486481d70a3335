/- What this law reaches beyond the common contracts, part 5. -/
import Derived.Test.YtnhmplfonkjfoaaDoorM2
import Derived.Test.YtnhmplfonkjfoaaDoorXPb4
set_option linter.unusedSimpArgs false
set_option linter.unusedVariables false


namespace Go.Proofs.YtnhmplfonkjfoaaDoor
open Go.RowKit

theorem info_node : (Tryd.prog.info? 45).map (fun i=>(i.zero,i.size,i.bytes)) = some (some (.agg #[.int .i64 0,.int .i64 0,.string ⟨#[]⟩,.bool false,.int .u64 0,.int .u64 0,.int .i64 0,.int .i64 0]),8,72):=by kernel_rfl
end Go.Proofs.YtnhmplfonkjfoaaDoor

