/- Part TOpRR of the proof: made for this claim. -/
import Derived.Test.YtljfmgfokifooaaTEnt4
import Derived.Test.YtljfmgfokifooaaTRdR2
set_option linter.unusedVariables false
set_option linter.unusedSimpArgs false
set_option maxRecDepth 100000
set_option maxHeartbeats 8000000
open Go.RowKit
namespace Go.VL
open Go.Proofs
def fillB (l : List UInt8) (n i : Nat) : List UInt8 := l.take i ++ List.replicate (n - i) 0
theorem fillB_len (l : List UInt8) (n i : Nat) (h : i ≤ l.length) (hn : i ≤ n) : (fillB l n i).length = n := by simp [fillB]; omega
end Go.VL
