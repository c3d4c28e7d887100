/- Part TEnv of the proof: made for this claim. -/
import Derived.Test.YtbceglggojnnaaaDoorStEnt
import Derived.Test.YtbceglggojnnaaaDoorStAu
import Derived.Test.YtbceglggojnnaaaDoorStKy
import Derived.Test.YtbceglggojnnaaaDoorShaSpec
import Derived.Test.YtbceglggojnnaaaDoorPackSpec
import Derived.Test.YtbceglggojnnaaaDoorStepSpec
import Derived.Test.YtbceglggojnnaaaDoorTreeSpec
import Derived.Test.YtbceglggojnnaaaDoorOnceSpec
import Derived.Test.YtbceglggojnnaaaDoorProg
import Derived.KernelRfl
/-! The seat's types. -/
set_option linter.unusedVariables false
set_option maxRecDepth 100000
open Go.RowKit
namespace Go.VL
open Go.Proofs
def envH : Env := [(3, ⟨.int .i64, 1, 8, false, true, [.flat (.int .i64 0)]⟩),
  (4, ⟨.bool, 1, 1, false, true, [.flat (.bool false)]⟩),
  (5, ⟨.int .u8, 1, 1, false, true, [.flat (.int .u8 0)]⟩),
  (9, ⟨.str, 1, 16, false, true, [.flat (.string ByteArray.empty)]⟩),
  (23, ⟨.ptr 102, 1, 8, false, true, [.flat (.pointer none)]⟩),
  (24, ⟨.int .i64, 1, 8, false, true, [.flat (.int .i64 0)]⟩),
  (30, ⟨.arr 16 5, 16, 16, true, true, bv z16.1⟩),
  (31, ⟨.arr 16 5, 16, 16, true, true, bv z16.1⟩),
  (33, ⟨.st [(0, 31, true), (16, 3, true)], 17, 24, true, true, Nd.c nd0⟩),
  (36, ⟨.sl 31, 1, 24, false, true, [.nil]⟩),
  (44, ⟨.sl 5, 1, 24, false, true, [.nil]⟩),
  (45, ⟨.int .u64, 1, 8, false, true, [.flat (.int .u64 0)]⟩),
  (48, ⟨.arr 32 5, 32, 32, true, true, bv z32.1⟩),
  (49, ⟨.sl 56, 1, 24, false, true, [.nil]⟩),
  (51, ⟨.oth, 1, 8, false, true, [.flat .nilFunc]⟩),
  (52, ⟨.arr 32 5, 32, 32, true, true, bv z32.1⟩),
  (54, ⟨.st [(0, 3, true), (1, 9, true), (2, 9, true), (3, 52, true)], 35, 72, true, true, Dr.c dr0⟩),
  (56, ⟨.st [(0, 3, true), (1, 54, true), (36, 3, true), (37, 3, true), (38, 52, true), (70, 3, true), (71, 9, true), (72, 9, true)], 73, 168, true, true, Ent.c ent0⟩),
  (57, ⟨.sl 52, 1, 24, false, true, [.nil]⟩),
  (64, ⟨.st [(0, 3, true), (1, 3, true), (2, 52, true), (34, 9, true)], 35, 64, true, true, Au.c au0⟩),
  (65, ⟨.sl 33, 1, 24, false, true, [.nil]⟩),
  (68, ⟨.arr 2 3, 2, 16, true, true, List.replicate 2 (.flat (.int .i64 0) : V)⟩),
  (69, ⟨.arr 4 3, 4, 32, true, true, List.replicate 4 (.flat (.int .i64 0) : V)⟩),
  (72, ⟨.sl 81, 1, 24, false, true, [.nil]⟩),
  (73, ⟨.ptr 128, 1, 8, false, true, [.flat (.pointer none)]⟩),
  (74, ⟨.ptr 79, 1, 8, false, true, [.flat (.pointer none)]⟩),
  (77, ⟨.arr 5 33, 85, 120, true, true, rep 5 (Nd.c nd0)⟩),
  (79, ⟨.st [(0, 3, true), (1, 9, true), (2, 36, true), (3, 49, true)], 4, 72, true, true, [.flat (.int .i64 0)] ++ [.flat (.string ByteArray.empty)] ++ [.nil] ++ [.nil]⟩),
  (81, ⟨.st [(0, 4, true), (1, 49, true), (2, 3, true), (3, 3, true)], 4, 48, true, true, [.flat (.bool false)] ++ [.nil] ++ [.flat (.int .i64 0)] ++ [.flat (.int .i64 0)]⟩),
  (102, ⟨.st [(0, 9, true), (1, 3, true), (2, 36, true), (3, 31, true)], 19, 64, true, true, Ky.c ky0⟩),
  (114, ⟨.sl 9, 1, 24, false, true, [.nil]⟩),
  (128, ⟨.st [(0, 3, true), (1, 23, true), (2, 49, true), (3, 57, true)], 4, 64, true, true, [.flat (.int .i64 0)] ++ [.flat (.pointer none)] ++ [.nil] ++ [.nil]⟩),
  (134, ⟨.ptr 164, 1, 8, false, true, [.flat (.pointer none)]⟩),
  (142, ⟨.st [(0, 3, true), (1, 3, true)], 2, 16, true, true, Pl.c pl0⟩),
  (147, ⟨.arr 35 3, 35, 280, true, true, iv (iz 35)⟩),
  (152, ⟨.sl 3, 1, 24, false, true, [.nil]⟩),
  (154, ⟨.sl 158, 1, 24, false, true, [.nil]⟩),
  (157, ⟨.int .u64, 1, 8, false, true, [.flat (.int .u64 0)]⟩),
  (158, ⟨.int .u32, 1, 4, false, true, [.flat (.int .u32 0)]⟩),
  (164, ⟨.st [(0, 9, true), (1, 4, true)], 2, 24, true, true, [.flat (.string ByteArray.empty)] ++ [.flat (.bool false)]⟩),
  (172, ⟨.arr 8 158, 8, 32, true, true, uv (wz 8)⟩),
  (173, ⟨.arr 8 158, 8, 32, true, true, uv (wz 8)⟩),
  (178, ⟨.arr 64 158, 64, 256, true, true, uv (wz 64)⟩)]
theorem envOk : EnvOk Tryd.prog envH := EnvOk.of (by kernel_rfl)
@[go_sem] theorem e3 : Env.get envH 3 = some ⟨.int .i64, 1, 8, false, true, [.flat (.int .i64 0)]⟩ := rfl
@[go_sem] theorem e4 : Env.get envH 4 = some ⟨.bool, 1, 1, false, true, [.flat (.bool false)]⟩ := rfl
@[go_sem] theorem e5 : Env.get envH 5 = some ⟨.int .u8, 1, 1, false, true, [.flat (.int .u8 0)]⟩ := rfl
@[go_sem] theorem e9 : Env.get envH 9 = some ⟨.str, 1, 16, false, true, [.flat (.string ByteArray.empty)]⟩ := rfl
@[go_sem] theorem e23 : Env.get envH 23 = some ⟨.ptr 102, 1, 8, false, true, [.flat (.pointer none)]⟩ := rfl
@[go_sem] theorem e24 : Env.get envH 24 = some ⟨.int .i64, 1, 8, false, true, [.flat (.int .i64 0)]⟩ := rfl
@[go_sem] theorem e30 : Env.get envH 30 = some ⟨.arr 16 5, 16, 16, true, true, bv z16.1⟩ := rfl
@[go_sem] theorem e31 : Env.get envH 31 = some ⟨.arr 16 5, 16, 16, true, true, bv z16.1⟩ := rfl
@[go_sem] theorem e33 : Env.get envH 33 = some ⟨.st [(0, 31, true), (16, 3, true)], 17, 24, true, true, Nd.c nd0⟩ := rfl
@[go_sem] theorem e36 : Env.get envH 36 = some ⟨.sl 31, 1, 24, false, true, [.nil]⟩ := rfl
@[go_sem] theorem e44 : Env.get envH 44 = some ⟨.sl 5, 1, 24, false, true, [.nil]⟩ := rfl
@[go_sem] theorem e45 : Env.get envH 45 = some ⟨.int .u64, 1, 8, false, true, [.flat (.int .u64 0)]⟩ := rfl
@[go_sem] theorem e48 : Env.get envH 48 = some ⟨.arr 32 5, 32, 32, true, true, bv z32.1⟩ := rfl
@[go_sem] theorem e49 : Env.get envH 49 = some ⟨.sl 56, 1, 24, false, true, [.nil]⟩ := rfl
@[go_sem] theorem e51 : Env.get envH 51 = some ⟨.oth, 1, 8, false, true, [.flat .nilFunc]⟩ := rfl
@[go_sem] theorem e52 : Env.get envH 52 = some ⟨.arr 32 5, 32, 32, true, true, bv z32.1⟩ := rfl
@[go_sem] theorem e54 : Env.get envH 54 = some ⟨.st [(0, 3, true), (1, 9, true), (2, 9, true), (3, 52, true)], 35, 72, true, true, Dr.c dr0⟩ := rfl
@[go_sem] theorem e56 : Env.get envH 56 = some ⟨.st [(0, 3, true), (1, 54, true), (36, 3, true), (37, 3, true), (38, 52, true), (70, 3, true), (71, 9, true), (72, 9, true)], 73, 168, true, true, Ent.c ent0⟩ := rfl
@[go_sem] theorem e57 : Env.get envH 57 = some ⟨.sl 52, 1, 24, false, true, [.nil]⟩ := rfl
@[go_sem] theorem e64 : Env.get envH 64 = some ⟨.st [(0, 3, true), (1, 3, true), (2, 52, true), (34, 9, true)], 35, 64, true, true, Au.c au0⟩ := rfl
@[go_sem] theorem e65 : Env.get envH 65 = some ⟨.sl 33, 1, 24, false, true, [.nil]⟩ := rfl
@[go_sem] theorem e68 : Env.get envH 68 = some ⟨.arr 2 3, 2, 16, true, true, List.replicate 2 (.flat (.int .i64 0) : V)⟩ := rfl
@[go_sem] theorem e69 : Env.get envH 69 = some ⟨.arr 4 3, 4, 32, true, true, List.replicate 4 (.flat (.int .i64 0) : V)⟩ := rfl
@[go_sem] theorem e72 : Env.get envH 72 = some ⟨.sl 81, 1, 24, false, true, [.nil]⟩ := rfl
@[go_sem] theorem e73 : Env.get envH 73 = some ⟨.ptr 128, 1, 8, false, true, [.flat (.pointer none)]⟩ := rfl
@[go_sem] theorem e74 : Env.get envH 74 = some ⟨.ptr 79, 1, 8, false, true, [.flat (.pointer none)]⟩ := rfl
@[go_sem] theorem e77 : Env.get envH 77 = some ⟨.arr 5 33, 85, 120, true, true, rep 5 (Nd.c nd0)⟩ := rfl
@[go_sem] theorem e79 : Env.get envH 79 = some ⟨.st [(0, 3, true), (1, 9, true), (2, 36, true), (3, 49, true)], 4, 72, true, true, [.flat (.int .i64 0)] ++ [.flat (.string ByteArray.empty)] ++ [.nil] ++ [.nil]⟩ := rfl
@[go_sem] theorem e81 : Env.get envH 81 = some ⟨.st [(0, 4, true), (1, 49, true), (2, 3, true), (3, 3, true)], 4, 48, true, true, [.flat (.bool false)] ++ [.nil] ++ [.flat (.int .i64 0)] ++ [.flat (.int .i64 0)]⟩ := rfl
@[go_sem] theorem e102 : Env.get envH 102 = some ⟨.st [(0, 9, true), (1, 3, true), (2, 36, true), (3, 31, true)], 19, 64, true, true, Ky.c ky0⟩ := rfl
@[go_sem] theorem e114 : Env.get envH 114 = some ⟨.sl 9, 1, 24, false, true, [.nil]⟩ := rfl
@[go_sem] theorem e128 : Env.get envH 128 = some ⟨.st [(0, 3, true), (1, 23, true), (2, 49, true), (3, 57, true)], 4, 64, true, true, [.flat (.int .i64 0)] ++ [.flat (.pointer none)] ++ [.nil] ++ [.nil]⟩ := rfl
@[go_sem] theorem e134 : Env.get envH 134 = some ⟨.ptr 164, 1, 8, false, true, [.flat (.pointer none)]⟩ := rfl
@[go_sem] theorem e142 : Env.get envH 142 = some ⟨.st [(0, 3, true), (1, 3, true)], 2, 16, true, true, Pl.c pl0⟩ := rfl
@[go_sem] theorem e147 : Env.get envH 147 = some ⟨.arr 35 3, 35, 280, true, true, iv (iz 35)⟩ := rfl
@[go_sem] theorem e152 : Env.get envH 152 = some ⟨.sl 3, 1, 24, false, true, [.nil]⟩ := rfl
@[go_sem] theorem e154 : Env.get envH 154 = some ⟨.sl 158, 1, 24, false, true, [.nil]⟩ := rfl
@[go_sem] theorem e157 : Env.get envH 157 = some ⟨.int .u64, 1, 8, false, true, [.flat (.int .u64 0)]⟩ := rfl
@[go_sem] theorem e158 : Env.get envH 158 = some ⟨.int .u32, 1, 4, false, true, [.flat (.int .u32 0)]⟩ := rfl
@[go_sem] theorem e164 : Env.get envH 164 = some ⟨.st [(0, 9, true), (1, 4, true)], 2, 24, true, true, [.flat (.string ByteArray.empty)] ++ [.flat (.bool false)]⟩ := rfl
@[go_sem] theorem e172 : Env.get envH 172 = some ⟨.arr 8 158, 8, 32, true, true, uv (wz 8)⟩ := rfl
@[go_sem] theorem e173 : Env.get envH 173 = some ⟨.arr 8 158, 8, 32, true, true, uv (wz 8)⟩ := rfl
@[go_sem] theorem e178 : Env.get envH 178 = some ⟨.arr 64 158, 64, 256, true, true, uv (wz 64)⟩ := rfl
def envL : LEnv := [(31, ckB 16),
  (33, (ckB 16) ++ ([.int .i64])),
  (48, ckB 32),
  (52, ckB 32),
  (54, ([.int .i64]) ++ ([.str]) ++ ([.str]) ++ (ckB 32)),
  (56, ([.int .i64]) ++ (([.int .i64]) ++ ([.str]) ++ ([.str]) ++ (ckB 32)) ++ ([.int .i64]) ++ ([.int .i64]) ++ (ckB 32) ++ ([.int .i64]) ++ ([.str]) ++ ([.str])),
  (64, ([.int .i64]) ++ ([.int .i64]) ++ (ckB 32) ++ ([.str])),
  (68, List.replicate 2 (.int .i64 : CK))]
theorem lenvOk : LEnvOk Tryd.prog envL := by unfold LEnvOk; kernel_rfl
@[go_sem] theorem l31 : LEnv.get envL 31 = some (ckB 16) := rfl
@[go_sem] theorem l33 : LEnv.get envL 33 = some ((ckB 16) ++ ([.int .i64])) := rfl
@[go_sem] theorem l48 : LEnv.get envL 48 = some (ckB 32) := rfl
@[go_sem] theorem l52 : LEnv.get envL 52 = some (ckB 32) := rfl
@[go_sem] theorem l54 : LEnv.get envL 54 = some (([.int .i64]) ++ ([.str]) ++ ([.str]) ++ (ckB 32)) := rfl
@[go_sem] theorem l56 : LEnv.get envL 56 = some (([.int .i64]) ++ (([.int .i64]) ++ ([.str]) ++ ([.str]) ++ (ckB 32)) ++ ([.int .i64]) ++ ([.int .i64]) ++ (ckB 32) ++ ([.int .i64]) ++ ([.str]) ++ ([.str])) := rfl
@[go_sem] theorem l64 : LEnv.get envL 64 = some (([.int .i64]) ++ ([.int .i64]) ++ (ckB 32) ++ ([.str])) := rfl
@[go_sem] theorem l68 : LEnv.get envL 68 = some (List.replicate 2 (.int .i64 : CK)) := rfl
def GL : Nat → Option (List V) := fun n => if n = 0 then some (uv startN) else if n = 1 then some (uv roundN) else none
@[go_sem] theorem GL0 : GL 0 = some (uv startN) := rfl
@[go_sem] theorem GL1 : GL 1 = some (uv roundN) := rfl
def kc (nt : Nat) (T B : List Nat) : Cfg := ⟨envH, envL, GL, nt, T, B⟩
variable {E : Entry} {nt : Nat} {T B : List Nat}
@[go_sem] theorem kc_H : (kc nt T B).H = envH := rfl
@[go_sem] theorem kc_L : (kc nt T B).L = envL := rfl
@[go_sem] theorem kc_gl : (kc nt T B).gl = GL := rfl
@[go_sem] theorem kc_nt : (kc nt T B).nt = nt := rfl
@[go_sem] theorem kc_T : (kc nt T B).T = T := rfl
@[go_sem] theorem kc_B : (kc nt T B).B = B := rfl
abbrev Rt (f : FuncId) (args : List V) (X : V) : Prop := ∀ M mn, Sp Tryd.prog GL f args M mn (fun r m k => r = X ∧ m = M ∧ k = mn)
theorem rga (hG : GlOk E.g0 E.w0 (kc nt T B).gl) {id : Nat} {ops : Array Oper} {y : Code} {σ : S} {Q : QC} (hd : dstOk nt ops.toList = true)
    (h : ∀ (Θ : Ctx Tryd.prog E (kc nt T B)) (K : S → Prop), Θ.ops = ops.toList → (∀ σ, WC Tryd.prog E (kc nt T B) y σ Q → K σ) → Post Θ (run (kc nt T B) (ops.toList.map (·.dst)) ops.toList σ True) K) : WC Tryd.prog E (kc nt T B) (.seq (.region id ops false) y) σ Q := WC.regionSeq envOk lenvOk hG hd h
theorem rgb (hG : GlOk E.g0 E.w0 (kc nt T B).gl) {id : Nat} {ops : Array Oper} {σ : S} {Q : QC} (hd : dstOk nt ops.toList = true)
    (h : ∀ (Θ : Ctx Tryd.prog E (kc nt T B)) (K : S → Prop), Θ.ops = ops.toList → (∀ σ, Q .normal σ → K σ) → Post Θ (run (kc nt T B) (ops.toList.map (·.dst)) ops.toList σ True) K) : WC Tryd.prog E (kc nt T B) (.region id ops false) σ Q := WC.region envOk lenvOk hG hd h
theorem rgd (cl : Cl) (hG : GlOk E.g0 E.w0 (kc nt T B).gl) {id : Nat} {ops : Array Oper} {σ : S} {Q : QC} (hd : dstOk nt ops.toList = true) (h5 : ∀ k op, cl k op ≤ 8) (hsl : (σ.sl.all fun p => decide (p.1 < nt)) = true)
    (hB : lexC T ops cl ops.size 0 (Array.replicate ops.size false) = true)
    (h : ∀ {E' : Entry} (Θ : CtxB Tryd.prog E' (kc nt T B)) (K : S → Prop), Θ.ops = ops.toList → Θ.cl = cl → Θ.n0 = σ.mn → (∀ σ, Q .normal σ → K σ) → PostB Θ (runB (kc nt T B) σ.mn cl (ops.toList.map (·.dst)) 0 ops.toList σ True) K) : WC Tryd.prog E (kc nt T B) (.region id ops true) σ Q := WC.regionB cl envOk lenvOk hG (by kernel_rfl) hd h5 hsl hB h
theorem rgc (cl : Cl) (hG : GlOk E.g0 E.w0 (kc nt T B).gl) {id : Nat} {ops : Array Oper} {y : Code} {σ : S} {Q : QC} (hd : dstOk nt ops.toList = true) (h5 : ∀ k op, cl k op ≤ 8) (hsl : (σ.sl.all fun p => decide (p.1 < nt)) = true)
    (hB : lexC T ops cl ops.size 0 (Array.replicate ops.size false) = true)
    (h : ∀ {E' : Entry} (Θ : CtxB Tryd.prog E' (kc nt T B)) (K : S → Prop), Θ.ops = ops.toList → Θ.cl = cl → Θ.n0 = σ.mn → (∀ σ, WC Tryd.prog E (kc nt T B) y σ Q → K σ) → PostB Θ (runB (kc nt T B) σ.mn cl (ops.toList.map (·.dst)) 0 ops.toList σ True) K) : WC Tryd.prog E (kc nt T B) (.seq (.region id ops true) y) σ Q :=
  WC.seq (rgd cl hG hd h5 hsl hB (fun Θ K a b c hK => h Θ K a b c (fun σ q => hK σ (nxt_n q))))
theorem rgdR (k : Nat) (cl : Cl) (hG : GlOk E.g0 E.w0 (kc nt T B).gl) {id : Nat} {ops : Array Oper} {σ : S} {Q : QC} (hd : dstOk nt ops.toList = true) (h5 : ∀ j op, cl j op ≤ 8 + k) (hsl : (σ.sl.all fun p => decide (p.1 < nt)) = true)
    (hB : lexC T ops cl ops.size 0 (Array.replicate ops.size false) = true)
    (h : ∀ {E' : Entry} (Θ : CtxB Tryd.prog E' (kc nt T B)) (K : S → Prop), Θ.ops = ops.toList → Θ.cl = cl → Θ.n0 = σ.mn → (∀ σ, Q .normal σ → K σ) → PostB Θ (runB (kc nt T B) σ.mn cl (ops.toList.map (·.dst)) 0 ops.toList { σ with mn := σ.mn + k } True) K) : WC Tryd.prog E (kc nt T B) (.region id ops true) σ Q := WC.regionBR k cl envOk lenvOk hG (by kernel_rfl) hd h5 hsl hB h
theorem rgcR (k : Nat) (cl : Cl) (hG : GlOk E.g0 E.w0 (kc nt T B).gl) {id : Nat} {ops : Array Oper} {y : Code} {σ : S} {Q : QC} (hd : dstOk nt ops.toList = true) (h5 : ∀ j op, cl j op ≤ 8 + k) (hsl : (σ.sl.all fun p => decide (p.1 < nt)) = true)
    (hB : lexC T ops cl ops.size 0 (Array.replicate ops.size false) = true)
    (h : ∀ {E' : Entry} (Θ : CtxB Tryd.prog E' (kc nt T B)) (K : S → Prop), Θ.ops = ops.toList → Θ.cl = cl → Θ.n0 = σ.mn → (∀ σ, WC Tryd.prog E (kc nt T B) y σ Q → K σ) → PostB Θ (runB (kc nt T B) σ.mn cl (ops.toList.map (·.dst)) 0 ops.toList { σ with mn := σ.mn + k } True) K) : WC Tryd.prog E (kc nt T B) (.seq (.region id ops true) y) σ Q :=
  WC.seq (rgdR k cl hG hd h5 hsl hB (fun Θ K a b c hK => h Θ K a b c (fun σ q => hK σ (nxt_n q))))
theorem rgdT (t : Nat) (cl : Cl) (hG : GlOk E.g0 E.w0 (kc nt T B).gl) {id : Nat} {ops : Array Oper} {σ : S} {Q : QC} (ht : t ≤ σ.mn) (hd : dstOk nt ops.toList = true) (h5 : ∀ j op, cl j op ≤ 8) (hsl : (σ.sl.all fun p => decide (p.1 < nt)) = true)
    (hB : lexC T ops cl ops.size 0 (Array.replicate ops.size false) = true)
    (h : ∀ {E' : Entry} (Θ : CtxB Tryd.prog E' (kc nt T B)) (K : S → Prop), Θ.ops = ops.toList → Θ.cl = cl → Θ.n0 = t → (∀ σ, Q .normal σ → K σ) → PostB Θ (runB (kc nt T B) t cl (ops.toList.map (·.dst)) 0 ops.toList σ True) K) : WC Tryd.prog E (kc nt T B) (.region id ops true) σ Q := WC.regionBT t cl envOk lenvOk hG (by kernel_rfl) ht hd h5 hsl hB h
theorem rgcT (t : Nat) (cl : Cl) (hG : GlOk E.g0 E.w0 (kc nt T B).gl) {id : Nat} {ops : Array Oper} {y : Code} {σ : S} {Q : QC} (ht : t ≤ σ.mn) (hd : dstOk nt ops.toList = true) (h5 : ∀ j op, cl j op ≤ 8) (hsl : (σ.sl.all fun p => decide (p.1 < nt)) = true)
    (hB : lexC T ops cl ops.size 0 (Array.replicate ops.size false) = true)
    (h : ∀ {E' : Entry} (Θ : CtxB Tryd.prog E' (kc nt T B)) (K : S → Prop), Θ.ops = ops.toList → Θ.cl = cl → Θ.n0 = t → (∀ σ, WC Tryd.prog E (kc nt T B) y σ Q → K σ) → PostB Θ (runB (kc nt T B) t cl (ops.toList.map (·.dst)) 0 ops.toList σ True) K) : WC Tryd.prog E (kc nt T B) (.seq (.region id ops true) y) σ Q :=
  WC.seq (rgdT t cl hG ht hd h5 hsl hB (fun Θ K a b c hK => h Θ K a b c (fun σ q => hK σ (nxt_n q))))
end Go.VL
