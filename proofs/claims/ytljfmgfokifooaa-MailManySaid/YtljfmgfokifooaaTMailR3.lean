/- Part TMailR3 of the proof: made for this claim. -/
import Derived.Test.YtljfmgfokifooaaTEntR3
import Derived.Test.YtljfmgfokifooaaTMailR2
import Derived.Test.YtljfmgfokifooaaMailEq
set_option linter.unusedVariables false
set_option linter.unusedSimpArgs false
set_option maxRecDepth 100000
set_option maxHeartbeats 8000000
open Go.RowKit
namespace Go.VL
open Go.Proofs
theorem Au.wb (o : Au) (j : Nat) (y : Id32) (b : UInt8) (h : j < 32) (hy : y.1 = o.hash.1.set j b) : putV o.c (2 + j) [.flat (.int .u8 (b.toNat : Int))] = ({ o with hash := y } : Au).c := by
  rw [Au.split2]
  have hp : ([.flat (.int .i64 o.node)] ++ [.flat (.int .i64 o.seq)] : List V).length = 2 := by simp
  have := putV_in ([.flat (.int .i64 o.node)] ++ [.flat (.int .i64 o.seq)]) (bv o.hash.1) ([.flat (.string (bs o.sig))]) j (.flat (.int .u8 (b.toNat : Int))) (by rw [bv_length, o.hash.2]; exact h)
  rw [hp] at this
  rw [this]
  have hs : (bv o.hash.1).set j (.flat (.int .u8 (b.toNat : Int))) = bv y.1 := by rw [hy]; simp [bv, List.map_set]
  rw [hs]
  simp [Au.c]
end Go.VL
