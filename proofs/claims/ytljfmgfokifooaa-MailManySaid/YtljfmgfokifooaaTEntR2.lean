/- Part TEntR2 of the proof: made for this claim. -/
import Derived.Test.YtljfmgfokifooaaTEntR
set_option linter.unusedVariables false
set_option linter.unusedSimpArgs false
set_option maxRecDepth 100000
set_option maxHeartbeats 8000000
open Go.RowKit
namespace Go.VL
open Go.Proofs
def fillI32 (x : Id32) (j : Nat) (h : j ≤ 32) : Id32 := ⟨fillB x.1 32 j, fillB_len x.1 32 j (by rw [x.2]; exact h) h⟩
theorem putV_in (a m b : List V) (j : Nat) (x : V) (h : j < m.length) : putV (a ++ (m ++ b)) (a.length + j) [x] = a ++ (m.set j x ++ b) := by
  unfold putV
  rw [List.take_length_add_append, List.take_append_of_le_length (by omega), Nat.add_assoc, List.length_singleton, List.drop_length_add_append, List.drop_append_of_le_length (by omega), List.set_eq_take_append_cons_drop, if_pos h]
  simp
theorem Ent.wb (o : Ent) (j : Nat) (y : Id32) (b : UInt8) (h : j < 32) (hy : y.1 = o.prev.1.set j b) : putV o.c (38 + j) [.flat (.int .u8 (b.toNat : Int))] = ({ o with prev := y } : Ent).c := by
  rw [Ent.split4]
  have hp : ([.flat (.int .i64 o.kind)] ++ o.d.c ++ [.flat (.int .i64 o.from_)] ++ [.flat (.int .i64 o.seq)] : List V).length = 38 := by simp [Dr.c_len]
  have := putV_in ([.flat (.int .i64 o.kind)] ++ o.d.c ++ [.flat (.int .i64 o.from_)] ++ [.flat (.int .i64 o.seq)]) (bv o.prev.1) ([.flat (.int .i64 o.mask)] ++ ([.flat (.string (bs o.pay))] ++ ([.flat (.string (bs o.sig))]))) j (.flat (.int .u8 (b.toNat : Int))) (by rw [bv_length, o.prev.2]; exact h)
  rw [hp] at this
  rw [this]
  have hs : (bv o.prev.1).set j (.flat (.int .u8 (b.toNat : Int))) = bv y.1 := by rw [hy]; simp [bv, List.map_set]
  rw [hs]
  simp [Ent.c]
end Go.VL
