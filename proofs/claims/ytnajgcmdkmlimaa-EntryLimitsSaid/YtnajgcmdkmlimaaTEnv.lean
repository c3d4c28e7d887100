/- Part TEnv of the proof: made for this claim. -/
import Derived.Test.YtnajgcmdkmlimaaTStructs
import Derived.Test.YtnajgcmdkmlimaaVLRun
import Derived.Test.YtnajgcmdkmlimaaProg
import Derived.KernelRfl
set_option linter.unusedVariables false
open Go.RowKit
namespace Go.VL
open Go.Proofs
def GL : Nat → Option (List V) := fun _ => none
def envH : Env := [(3, ⟨.int .i64, 1, 8, false, true, [.flat (.int .i64 0)]⟩),
  (4, ⟨.bool, 1, 1, false, true, [.flat (.bool false)]⟩),
  (5, ⟨.int .u8, 1, 1, false, true, [.flat (.int .u8 0)]⟩),
  (9, ⟨.str, 1, 16, false, true, [.flat (.string ByteArray.empty)]⟩),
  (22, ⟨.arr 32 5, 32, 32, true, true, bv z32.1⟩),
  (23, ⟨.arr 32 5, 32, 32, true, true, bv z32.1⟩),
  (25, ⟨.st [(0, 3, true), (1, 9, true), (2, 9, true), (3, 23, true)], 35, 72, true, true, Dr.c dr0⟩),
  (26, ⟨.sl 23, 1, 24, false, true, [.nil]⟩),
  (28, ⟨.st [(0, 25, true), (35, 3, true), (36, 3, true), (37, 26, true)], 38, 112, true, true, OpR.c opR0⟩),
  (35, ⟨.st [(0, 3, true), (1, 25, true), (36, 3, true), (37, 3, true), (38, 23, true), (70, 3, true), (71, 9, true), (72, 9, true)], 73, 168, true, true, Ent.c ent0⟩),
  (39, ⟨.sl 35, 1, 24, false, true, [.nil]⟩),
  (40, ⟨.sl 43, 1, 24, false, true, [.nil]⟩),
  (43, ⟨.st [(0, 3, true), (1, 9, true)], 2, 24, true, true, Ou.c ou0⟩),
  (48, ⟨.int .i64, 1, 8, false, true, [.flat (.int .i64 0)]⟩),
  (53, ⟨.sl 5, 1, 24, false, true, [.nil]⟩),
  (63, ⟨.sl 28, 1, 24, false, true, [.nil]⟩),
  (85, ⟨.sl 9, 1, 24, false, true, [.nil]⟩),
  (95, ⟨.ptr 108, 1, 8, false, true, [.flat (.pointer none)]⟩),
  (108, ⟨.st [(0, 9, true), (1, 4, true)], 2, 24, true, true, [.flat (.string ByteArray.empty)] ++ [.flat (.bool false)]⟩)]
theorem envOk : EnvOk Try.prog envH := EnvOk.of (by kernel_rfl)
theorem e3 : Env.get envH 3 = some ⟨.int .i64, 1, 8, false, true, [.flat (.int .i64 0)]⟩ := rfl
theorem e4 : Env.get envH 4 = some ⟨.bool, 1, 1, false, true, [.flat (.bool false)]⟩ := rfl
theorem e5 : Env.get envH 5 = some ⟨.int .u8, 1, 1, false, true, [.flat (.int .u8 0)]⟩ := rfl
theorem e9 : Env.get envH 9 = some ⟨.str, 1, 16, false, true, [.flat (.string ByteArray.empty)]⟩ := rfl
theorem e22 : Env.get envH 22 = some ⟨.arr 32 5, 32, 32, true, true, bv z32.1⟩ := rfl
theorem e23 : Env.get envH 23 = some ⟨.arr 32 5, 32, 32, true, true, bv z32.1⟩ := rfl
theorem e25 : Env.get envH 25 = some ⟨.st [(0, 3, true), (1, 9, true), (2, 9, true), (3, 23, true)], 35, 72, true, true, Dr.c dr0⟩ := rfl
theorem e26 : Env.get envH 26 = some ⟨.sl 23, 1, 24, false, true, [.nil]⟩ := rfl
theorem e28 : Env.get envH 28 = some ⟨.st [(0, 25, true), (35, 3, true), (36, 3, true), (37, 26, true)], 38, 112, true, true, OpR.c opR0⟩ := rfl
theorem e35 : Env.get envH 35 = some ⟨.st [(0, 3, true), (1, 25, true), (36, 3, true), (37, 3, true), (38, 23, true), (70, 3, true), (71, 9, true), (72, 9, true)], 73, 168, true, true, Ent.c ent0⟩ := rfl
theorem e39 : Env.get envH 39 = some ⟨.sl 35, 1, 24, false, true, [.nil]⟩ := rfl
theorem e40 : Env.get envH 40 = some ⟨.sl 43, 1, 24, false, true, [.nil]⟩ := rfl
theorem e43 : Env.get envH 43 = some ⟨.st [(0, 3, true), (1, 9, true)], 2, 24, true, true, Ou.c ou0⟩ := rfl
theorem e48 : Env.get envH 48 = some ⟨.int .i64, 1, 8, false, true, [.flat (.int .i64 0)]⟩ := rfl
theorem e53 : Env.get envH 53 = some ⟨.sl 5, 1, 24, false, true, [.nil]⟩ := rfl
theorem e63 : Env.get envH 63 = some ⟨.sl 28, 1, 24, false, true, [.nil]⟩ := rfl
theorem e85 : Env.get envH 85 = some ⟨.sl 9, 1, 24, false, true, [.nil]⟩ := rfl
theorem e95 : Env.get envH 95 = some ⟨.ptr 108, 1, 8, false, true, [.flat (.pointer none)]⟩ := rfl
theorem e108 : Env.get envH 108 = some ⟨.st [(0, 9, true), (1, 4, true)], 2, 24, true, true, [.flat (.string ByteArray.empty)] ++ [.flat (.bool false)]⟩ := rfl
def envL : LEnv := [(23, List.replicate 32 (.int .u8 : CK)),
  (25, ([.int .i64]) ++ ([.str]) ++ ([.str]) ++ (List.replicate 32 (.int .u8 : CK))),
  (35, ([.int .i64]) ++ (([.int .i64]) ++ ([.str]) ++ ([.str]) ++ (List.replicate 32 (.int .u8 : CK))) ++ ([.int .i64]) ++ ([.int .i64]) ++ (List.replicate 32 (.int .u8 : CK)) ++ ([.int .i64]) ++ ([.str]) ++ ([.str])),
  (22, List.replicate 32 (.int .u8 : CK))]
theorem lenvOk : LEnvOk Try.prog envL := by unfold LEnvOk; kernel_rfl
theorem l23 : LEnv.get envL 23 = some (List.replicate 32 (.int .u8 : CK)) := rfl
theorem l25 : LEnv.get envL 25 = some (([.int .i64]) ++ ([.str]) ++ ([.str]) ++ (List.replicate 32 (.int .u8 : CK))) := rfl
theorem l35 : LEnv.get envL 35 = some (([.int .i64]) ++ (([.int .i64]) ++ ([.str]) ++ ([.str]) ++ (List.replicate 32 (.int .u8 : CK))) ++ ([.int .i64]) ++ ([.int .i64]) ++ (List.replicate 32 (.int .u8 : CK)) ++ ([.int .i64]) ++ ([.str]) ++ ([.str])) := rfl
theorem l22 : LEnv.get envL 22 = some (List.replicate 32 (.int .u8 : CK)) := rfl
end Go.VL
