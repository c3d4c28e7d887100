/- Part TMailR2 of the proof: made for this claim. -/
import Derived.Test.YtljfmgfokifooaaTMailR
set_option linter.unusedVariables false
set_option linter.unusedSimpArgs false
set_option maxRecDepth 100000
set_option maxHeartbeats 8000000
open Go.RowKit
namespace Go.VL
open Go.Proofs
@[go_sem] theorem wr1 : IntKind.i64.wrap 1 = 1 := by decide
@[go_sem] theorem wr2 : IntKind.i64.wrap 2 = 2 := by decide
@[go_sem] theorem wr3 : IntKind.i64.wrap 3 = 3 := by decide
@[go_sem] theorem wr4 : IntKind.i64.wrap 4 = 4 := by decide
end Go.VL
