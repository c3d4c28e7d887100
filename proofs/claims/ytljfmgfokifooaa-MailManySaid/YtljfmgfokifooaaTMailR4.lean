/- Part TMailR4 of the proof: made for this claim. -/
import Derived.Test.YtljfmgfokifooaaTMailR3
set_option linter.unusedVariables false
set_option linter.unusedSimpArgs false
set_option maxRecDepth 100000
set_option maxHeartbeats 8000000
open Go.RowKit
namespace Go.VL
open Go.Proofs
theorem Ml.wb (o : Ml) (j : Nat) (y : Id32) (b : UInt8) (h : j < 32) (hy : y.1 = o.prev.1.set j b) : putV o.c (4 + j) [.flat (.int .u8 (b.toNat : Int))] = ({ o with prev := y } : Ml).c := by
  rw [Ml.split4]
  have hp : ([.flat (.int .i64 o.kind)] ++ [.flat (.int .i64 o.from_)] ++ [.flat (.int .i64 o.to)] ++ [.flat (.int .i64 o.seq)] : List V).length = 4 := by simp
  have := putV_in ([.flat (.int .i64 o.kind)] ++ [.flat (.int .i64 o.from_)] ++ [.flat (.int .i64 o.to)] ++ [.flat (.int .i64 o.seq)]) (bv o.prev.1) ([.flat (.int .i64 o.mask)] ++ ([.flat (.string (bs o.pay))] ++ ([.flat (.int .i64 o.other)] ++ (o.auth.c ++ ([o.auths] ++ ([o.ents] ++ ([o.proofs]))))))) j (.flat (.int .u8 (b.toNat : Int))) (by rw [bv_length, o.prev.2]; exact h)
  rw [hp] at this
  rw [this]
  have hs : (bv o.prev.1).set j (.flat (.int .u8 (b.toNat : Int))) = bv y.1 := by rw [hy]; simp [bv, List.map_set]
  rw [hs]
  simp [Ml.c]
end Go.VL
