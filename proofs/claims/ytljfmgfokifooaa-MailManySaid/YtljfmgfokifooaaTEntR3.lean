/- Part TEntR3 of the proof: made for this claim. -/
import Derived.Test.YtljfmgfokifooaaTEntR2
set_option linter.unusedVariables false
set_option linter.unusedSimpArgs false
set_option maxRecDepth 100000
set_option maxHeartbeats 8000000
open Go.RowKit
namespace Go.VL
open Go.Proofs
end Go.VL
