/- Part TEnv of the proof: made for this claim. -/
import Derived.Test.YtmdfbbeobijoeaaVL20
import Derived.Test.YtmdfbbeobijoeaaProg
import Derived.KernelRfl
set_option linter.unusedVariables false
open Go.RowKit
namespace Go.VL
open Go.Proofs
def envH : Env := [(3, ⟨.int .i64, 1, 8, false, true, [.flat (.int .i64 0)]⟩),
  (4, ⟨.bool, 1, 1, false, true, [.flat (.bool false)]⟩),
  (5, ⟨.int .u8, 1, 1, false, true, [.flat (.int .u8 0)]⟩),
  (9, ⟨.str, 1, 16, false, true, [.flat (.string ByteArray.empty)]⟩),
  (22, ⟨.sl 9, 1, 24, false, true, [.nil]⟩),
  (31, ⟨.ptr 59, 1, 8, false, true, [.flat (.pointer none)]⟩),
  (34, ⟨.int .i64, 1, 8, false, true, [.flat (.int .i64 0)]⟩),
  (37, ⟨.sl 39, 1, 24, false, true, [.nil]⟩),
  (39, ⟨.st [(0, 3, true)], 1, 8, true, true, [.flat (.int .i64 0)]⟩),
  (56, ⟨.sl 5, 1, 24, false, true, [.nil]⟩),
  (57, ⟨.int .u64, 1, 8, false, true, [.flat (.int .u64 0)]⟩),
  (58, ⟨.st [(0, 9, true), (1, 4, true)], 2, 24, true, true, [.flat (.string ByteArray.empty)] ++ [.flat (.bool false)]⟩),
  (59, ⟨.st [(0, 9, true), (1, 4, true)], 2, 24, true, true, [.flat (.string ByteArray.empty)] ++ [.flat (.bool false)]⟩)]
theorem envOk : EnvOk Try.prog envH := EnvOk.of (by kernel_rfl)
theorem e3 : Env.get envH 3 = some ⟨.int .i64, 1, 8, false, true, [.flat (.int .i64 0)]⟩ := rfl
theorem e4 : Env.get envH 4 = some ⟨.bool, 1, 1, false, true, [.flat (.bool false)]⟩ := rfl
theorem e5 : Env.get envH 5 = some ⟨.int .u8, 1, 1, false, true, [.flat (.int .u8 0)]⟩ := rfl
theorem e9 : Env.get envH 9 = some ⟨.str, 1, 16, false, true, [.flat (.string ByteArray.empty)]⟩ := rfl
theorem e22 : Env.get envH 22 = some ⟨.sl 9, 1, 24, false, true, [.nil]⟩ := rfl
theorem e31 : Env.get envH 31 = some ⟨.ptr 59, 1, 8, false, true, [.flat (.pointer none)]⟩ := rfl
theorem e34 : Env.get envH 34 = some ⟨.int .i64, 1, 8, false, true, [.flat (.int .i64 0)]⟩ := rfl
theorem e37 : Env.get envH 37 = some ⟨.sl 39, 1, 24, false, true, [.nil]⟩ := rfl
theorem e39 : Env.get envH 39 = some ⟨.st [(0, 3, true)], 1, 8, true, true, [.flat (.int .i64 0)]⟩ := rfl
theorem e56 : Env.get envH 56 = some ⟨.sl 5, 1, 24, false, true, [.nil]⟩ := rfl
theorem e57 : Env.get envH 57 = some ⟨.int .u64, 1, 8, false, true, [.flat (.int .u64 0)]⟩ := rfl
theorem e58 : Env.get envH 58 = some ⟨.st [(0, 9, true), (1, 4, true)], 2, 24, true, true, [.flat (.string ByteArray.empty)] ++ [.flat (.bool false)]⟩ := rfl
theorem e59 : Env.get envH 59 = some ⟨.st [(0, 9, true), (1, 4, true)], 2, 24, true, true, [.flat (.string ByteArray.empty)] ++ [.flat (.bool false)]⟩ := rfl
def envL : LEnv := [(39, ([.int .i64]))]
theorem lenvOk : LEnvOk Try.prog envL := by unfold LEnvOk; kernel_rfl
theorem l39 : LEnv.get envL 39 = some (([.int .i64])) := rfl
end Go.VL
