/- Part SA of the proof: made for this claim. -/
import Derived.Test.YtbceglggojnnaaaDoorFB
import Derived.Test.YtbceglggojnnaaaDoorProg
import Derived.KernelRfl
set_option linter.unusedVariables false
set_option maxRecDepth 100000
open Go.RowKit
namespace Go.VL
open Go.Proofs
def envH : Env := [(3, ⟨.int .i64, 1, 8, false, true, [.flat (.int .i64 0)]⟩),
  (4, ⟨.bool, 1, 1, false, true, [.flat (.bool false)]⟩),
  (5, ⟨.int .u8, 1, 1, false, true, [.flat (.int .u8 0)]⟩),
  (9, ⟨.str, 1, 16, false, true, [.flat (.string ByteArray.empty)]⟩),
  (23, ⟨.ptr 102, 1, 8, false, true, [.flat (.pointer none)]⟩),
  (24, ⟨.int .i64, 1, 8, false, true, [.flat (.int .i64 0)]⟩),
  (30, ⟨.arr 16 5, 16, 16, true, true, bv z16.1⟩),
  (31, ⟨.arr 16 5, 16, 16, true, true, bv z16.1⟩),
  (33, ⟨.st [(0, 31, true), (16, 3, true)], 17, 24, true, true, Nd.c nd0⟩),
  (36, ⟨.sl 31, 1, 24, false, true, [.nil]⟩),
  (44, ⟨.sl 5, 1, 24, false, true, [.nil]⟩),
  (45, ⟨.int .u64, 1, 8, false, true, [.flat (.int .u64 0)]⟩),
  (48, ⟨.arr 32 5, 32, 32, true, true, bv z32.1⟩),
  (49, ⟨.sl 56, 1, 24, false, true, [.nil]⟩),
  (51, ⟨.oth, 1, 8, false, true, [.flat .nilFunc]⟩),
  (52, ⟨.arr 32 5, 32, 32, true, true, bv z32.1⟩),
  (54, ⟨.st [(0, 3, true), (1, 9, true), (2, 9, true), (3, 52, true)], 35, 72, true, true, Dr.c dr0⟩),
  (56, ⟨.st [(0, 3, true), (1, 54, true), (36, 3, true), (37, 3, true), (38, 52, true), (70, 3, true), (71, 9, true), (72, 9, true)], 73, 168, true, true, Ent.c ent0⟩),
  (57, ⟨.sl 52, 1, 24, false, true, [.nil]⟩),
  (64, ⟨.st [(0, 3, true), (1, 3, true), (2, 52, true), (34, 9, true)], 35, 64, true, true, Au.c au0⟩),
  (65, ⟨.sl 33, 1, 24, false, true, [.nil]⟩),
  (68, ⟨.arr 2 3, 2, 16, true, true, List.replicate 2 (.flat (.int .i64 0) : V)⟩),
  (69, ⟨.arr 4 3, 4, 32, true, true, List.replicate 4 (.flat (.int .i64 0) : V)⟩),
  (72, ⟨.sl 81, 1, 24, false, true, [.nil]⟩),
  (73, ⟨.ptr 128, 1, 8, false, true, [.flat (.pointer none)]⟩),
  (74, ⟨.ptr 79, 1, 8, false, true, [.flat (.pointer none)]⟩),
  (77, ⟨.arr 5 33, 85, 120, true, true, rep 5 (Nd.c nd0)⟩),
  (79, ⟨.st [(0, 3, true), (1, 9, true), (2, 36, true), (3, 49, true)], 4, 72, true, true, [.flat (.int .i64 0)] ++ [.flat (.string ByteArray.empty)] ++ [.nil] ++ [.nil]⟩),
  (81, ⟨.st [(0, 4, true), (1, 49, true), (2, 3, true), (3, 3, true)], 4, 48, true, true, [.flat (.bool false)] ++ [.nil] ++ [.flat (.int .i64 0)] ++ [.flat (.int .i64 0)]⟩),
  (102, ⟨.st [(0, 9, true), (1, 3, true), (2, 36, true), (3, 31, true)], 19, 64, true, true, Ky.c ky0⟩),
  (114, ⟨.sl 9, 1, 24, false, true, [.nil]⟩),
  (128, ⟨.st [(0, 3, true), (1, 23, true), (2, 49, true), (3, 57, true)], 4, 64, true, true, [.flat (.int .i64 0)] ++ [.flat (.pointer none)] ++ [.nil] ++ [.nil]⟩),
  (134, ⟨.ptr 164, 1, 8, false, true, [.flat (.pointer none)]⟩),
  (142, ⟨.st [(0, 3, true), (1, 3, true)], 2, 16, true, true, Pl.c pl0⟩),
  (147, ⟨.arr 35 3, 35, 280, true, true, iv (iz 35)⟩),
  (152, ⟨.sl 3, 1, 24, false, true, [.nil]⟩),
  (154, ⟨.sl 158, 1, 24, false, true, [.nil]⟩),
  (157, ⟨.int .u64, 1, 8, false, true, [.flat (.int .u64 0)]⟩),
  (158, ⟨.int .u32, 1, 4, false, true, [.flat (.int .u32 0)]⟩),
  (164, ⟨.st [(0, 9, true), (1, 4, true)], 2, 24, true, true, [.flat (.string ByteArray.empty)] ++ [.flat (.bool false)]⟩),
  (172, ⟨.arr 8 158, 8, 32, true, true, uv (wz 8)⟩),
  (173, ⟨.arr 8 158, 8, 32, true, true, uv (wz 8)⟩),
  (178, ⟨.arr 64 158, 64, 256, true, true, uv (wz 64)⟩)]
theorem envOk : EnvOk Tryd.prog envH := EnvOk.of (by kernel_rfl)
@[go_sem] theorem e3 : Env.get envH 3 = some ⟨.int .i64, 1, 8, false, true, [.flat (.int .i64 0)]⟩ := rfl
@[go_sem] theorem e4 : Env.get envH 4 = some ⟨.bool, 1, 1, false, true, [.flat (.bool false)]⟩ := rfl
@[go_sem] theorem e5 : Env.get envH 5 = some ⟨.int .u8, 1, 1, false, true, [.flat (.int .u8 0)]⟩ := rfl
@[go_sem] theorem e9 : Env.get envH 9 = some ⟨.str, 1, 16, false, true, [.flat (.string ByteArray.empty)]⟩ := rfl
@[go_sem] theorem e23 : Env.get envH 23 = some ⟨.ptr 102, 1, 8, false, true, [.flat (.pointer none)]⟩ := rfl
@[go_sem] theorem e24 : Env.get envH 24 = some ⟨.int .i64, 1, 8, false, true, [.flat (.int .i64 0)]⟩ := rfl
@[go_sem] theorem e30 : Env.get envH 30 = some ⟨.arr 16 5, 16, 16, true, true, bv z16.1⟩ := rfl
@[go_sem] theorem e31 : Env.get envH 31 = some ⟨.arr 16 5, 16, 16, true, true, bv z16.1⟩ := rfl
@[go_sem] theorem e33 : Env.get envH 33 = some ⟨.st [(0, 31, true), (16, 3, true)], 17, 24, true, true, Nd.c nd0⟩ := rfl
@[go_sem] theorem e36 : Env.get envH 36 = some ⟨.sl 31, 1, 24, false, true, [.nil]⟩ := rfl
@[go_sem] theorem e44 : Env.get envH 44 = some ⟨.sl 5, 1, 24, false, true, [.nil]⟩ := rfl
@[go_sem] theorem e45 : Env.get envH 45 = some ⟨.int .u64, 1, 8, false, true, [.flat (.int .u64 0)]⟩ := rfl
@[go_sem] theorem e48 : Env.get envH 48 = some ⟨.arr 32 5, 32, 32, true, true, bv z32.1⟩ := rfl
@[go_sem] theorem e49 : Env.get envH 49 = some ⟨.sl 56, 1, 24, false, true, [.nil]⟩ := rfl
@[go_sem] theorem e51 : Env.get envH 51 = some ⟨.oth, 1, 8, false, true, [.flat .nilFunc]⟩ := rfl
@[go_sem] theorem e52 : Env.get envH 52 = some ⟨.arr 32 5, 32, 32, true, true, bv z32.1⟩ := rfl
@[go_sem] theorem e54 : Env.get envH 54 = some ⟨.st [(0, 3, true), (1, 9, true), (2, 9, true), (3, 52, true)], 35, 72, true, true, Dr.c dr0⟩ := rfl
@[go_sem] theorem e56 : Env.get envH 56 = some ⟨.st [(0, 3, true), (1, 54, true), (36, 3, true), (37, 3, true), (38, 52, true), (70, 3, true), (71, 9, true), (72, 9, true)], 73, 168, true, true, Ent.c ent0⟩ := rfl
@[go_sem] theorem e57 : Env.get envH 57 = some ⟨.sl 52, 1, 24, false, true, [.nil]⟩ := rfl
@[go_sem] theorem e64 : Env.get envH 64 = some ⟨.st [(0, 3, true), (1, 3, true), (2, 52, true), (34, 9, true)], 35, 64, true, true, Au.c au0⟩ := rfl
@[go_sem] theorem e65 : Env.get envH 65 = some ⟨.sl 33, 1, 24, false, true, [.nil]⟩ := rfl
@[go_sem] theorem e68 : Env.get envH 68 = some ⟨.arr 2 3, 2, 16, true, true, List.replicate 2 (.flat (.int .i64 0) : V)⟩ := rfl
@[go_sem] theorem e69 : Env.get envH 69 = some ⟨.arr 4 3, 4, 32, true, true, List.replicate 4 (.flat (.int .i64 0) : V)⟩ := rfl
@[go_sem] theorem e72 : Env.get envH 72 = some ⟨.sl 81, 1, 24, false, true, [.nil]⟩ := rfl
@[go_sem] theorem e73 : Env.get envH 73 = some ⟨.ptr 128, 1, 8, false, true, [.flat (.pointer none)]⟩ := rfl
@[go_sem] theorem e74 : Env.get envH 74 = some ⟨.ptr 79, 1, 8, false, true, [.flat (.pointer none)]⟩ := rfl
@[go_sem] theorem e77 : Env.get envH 77 = some ⟨.arr 5 33, 85, 120, true, true, rep 5 (Nd.c nd0)⟩ := rfl
@[go_sem] theorem e79 : Env.get envH 79 = some ⟨.st [(0, 3, true), (1, 9, true), (2, 36, true), (3, 49, true)], 4, 72, true, true, [.flat (.int .i64 0)] ++ [.flat (.string ByteArray.empty)] ++ [.nil] ++ [.nil]⟩ := rfl
@[go_sem] theorem e81 : Env.get envH 81 = some ⟨.st [(0, 4, true), (1, 49, true), (2, 3, true), (3, 3, true)], 4, 48, true, true, [.flat (.bool false)] ++ [.nil] ++ [.flat (.int .i64 0)] ++ [.flat (.int .i64 0)]⟩ := rfl
@[go_sem] theorem e102 : Env.get envH 102 = some ⟨.st [(0, 9, true), (1, 3, true), (2, 36, true), (3, 31, true)], 19, 64, true, true, Ky.c ky0⟩ := rfl
@[go_sem] theorem e114 : Env.get envH 114 = some ⟨.sl 9, 1, 24, false, true, [.nil]⟩ := rfl
@[go_sem] theorem e128 : Env.get envH 128 = some ⟨.st [(0, 3, true), (1, 23, true), (2, 49, true), (3, 57, true)], 4, 64, true, true, [.flat (.int .i64 0)] ++ [.flat (.pointer none)] ++ [.nil] ++ [.nil]⟩ := rfl
@[go_sem] theorem e134 : Env.get envH 134 = some ⟨.ptr 164, 1, 8, false, true, [.flat (.pointer none)]⟩ := rfl
@[go_sem] theorem e142 : Env.get envH 142 = some ⟨.st [(0, 3, true), (1, 3, true)], 2, 16, true, true, Pl.c pl0⟩ := rfl
@[go_sem] theorem e147 : Env.get envH 147 = some ⟨.arr 35 3, 35, 280, true, true, iv (iz 35)⟩ := rfl
@[go_sem] theorem e152 : Env.get envH 152 = some ⟨.sl 3, 1, 24, false, true, [.nil]⟩ := rfl
@[go_sem] theorem e154 : Env.get envH 154 = some ⟨.sl 158, 1, 24, false, true, [.nil]⟩ := rfl
@[go_sem] theorem e157 : Env.get envH 157 = some ⟨.int .u64, 1, 8, false, true, [.flat (.int .u64 0)]⟩ := rfl
@[go_sem] theorem e158 : Env.get envH 158 = some ⟨.int .u32, 1, 4, false, true, [.flat (.int .u32 0)]⟩ := rfl
@[go_sem] theorem e164 : Env.get envH 164 = some ⟨.st [(0, 9, true), (1, 4, true)], 2, 24, true, true, [.flat (.string ByteArray.empty)] ++ [.flat (.bool false)]⟩ := rfl
@[go_sem] theorem e172 : Env.get envH 172 = some ⟨.arr 8 158, 8, 32, true, true, uv (wz 8)⟩ := rfl
@[go_sem] theorem e173 : Env.get envH 173 = some ⟨.arr 8 158, 8, 32, true, true, uv (wz 8)⟩ := rfl
@[go_sem] theorem e178 : Env.get envH 178 = some ⟨.arr 64 158, 64, 256, true, true, uv (wz 64)⟩ := rfl
def envL : LEnv := [(31, ckB 16),
  (33, (ckB 16) ++ ([.int .i64])),
  (48, ckB 32),
  (52, ckB 32),
  (54, ([.int .i64]) ++ ([.str]) ++ ([.str]) ++ (ckB 32)),
  (56, ([.int .i64]) ++ (([.int .i64]) ++ ([.str]) ++ ([.str]) ++ (ckB 32)) ++ ([.int .i64]) ++ ([.int .i64]) ++ (ckB 32) ++ ([.int .i64]) ++ ([.str]) ++ ([.str])),
  (64, ([.int .i64]) ++ ([.int .i64]) ++ (ckB 32) ++ ([.str])),
  (68, List.replicate 2 (.int .i64 : CK))]
theorem lenvOk : LEnvOk Tryd.prog envL := by unfold LEnvOk; kernel_rfl
@[go_sem] theorem l31 : LEnv.get envL 31 = some (ckB 16) := rfl
@[go_sem] theorem l33 : LEnv.get envL 33 = some ((ckB 16) ++ ([.int .i64])) := rfl
@[go_sem] theorem l48 : LEnv.get envL 48 = some (ckB 32) := rfl
@[go_sem] theorem l52 : LEnv.get envL 52 = some (ckB 32) := rfl
@[go_sem] theorem l54 : LEnv.get envL 54 = some (([.int .i64]) ++ ([.str]) ++ ([.str]) ++ (ckB 32)) := rfl
@[go_sem] theorem l56 : LEnv.get envL 56 = some (([.int .i64]) ++ (([.int .i64]) ++ ([.str]) ++ ([.str]) ++ (ckB 32)) ++ ([.int .i64]) ++ ([.int .i64]) ++ (ckB 32) ++ ([.int .i64]) ++ ([.str]) ++ ([.str])) := rfl
@[go_sem] theorem l64 : LEnv.get envL 64 = some (([.int .i64]) ++ ([.int .i64]) ++ (ckB 32) ++ ([.str])) := rfl
@[go_sem] theorem l68 : LEnv.get envL 68 = some (List.replicate 2 (.int .i64 : CK)) := rfl
def GL : Nat → Option (List V) := fun n => if n = 0 then some (uv startN) else if n = 1 then some (uv roundN) else none
@[go_sem] theorem GL0 : GL 0 = some (uv startN) := rfl
@[go_sem] theorem GL1 : GL 1 = some (uv roundN) := rfl
def kc (nt : Nat) (T B : List Nat) : Cfg := ⟨envH, envL, GL, nt, T, B⟩
variable {E : Entry} {nt : Nat} {T B : List Nat}
@[go_sem] theorem kc_H : (kc nt T B).H = envH := rfl
@[go_sem] theorem kc_L : (kc nt T B).L = envL := rfl
@[go_sem] theorem kc_gl : (kc nt T B).gl = GL := rfl
@[go_sem] theorem kc_nt : (kc nt T B).nt = nt := rfl
@[go_sem] theorem kc_T : (kc nt T B).T = T := rfl
@[go_sem] theorem kc_B : (kc nt T B).B = B := rfl
abbrev Rt (f : FuncId) (args : List V) (X : V) : Prop := ∀ M mn, Sp Tryd.prog GL f args M mn (fun r m k => r = X ∧ m = M ∧ k = mn)
theorem rga (hG : GlOk E.g0 E.w0 (kc nt T B).gl) {id : Nat} {ops : Array Oper} {y : Code} {σ : S} {Q : QC} (hd : dstOk nt ops.toList = true)
    (h : ∀ (Θ : Ctx Tryd.prog E (kc nt T B)) (K : S → Prop), Θ.ops = ops.toList → (∀ σ, WC Tryd.prog E (kc nt T B) y σ Q → K σ) → Post Θ (run (kc nt T B) (ops.toList.map (·.dst)) ops.toList σ True) K) : WC Tryd.prog E (kc nt T B) (.seq (.region id ops false) y) σ Q := WC.regionSeq envOk lenvOk hG hd h
theorem rgb (hG : GlOk E.g0 E.w0 (kc nt T B).gl) {id : Nat} {ops : Array Oper} {σ : S} {Q : QC} (hd : dstOk nt ops.toList = true)
    (h : ∀ (Θ : Ctx Tryd.prog E (kc nt T B)) (K : S → Prop), Θ.ops = ops.toList → (∀ σ, Q .normal σ → K σ) → Post Θ (run (kc nt T B) (ops.toList.map (·.dst)) ops.toList σ True) K) : WC Tryd.prog E (kc nt T B) (.region id ops false) σ Q := WC.region envOk lenvOk hG hd h
theorem rgd (cl : Cl) (hG : GlOk E.g0 E.w0 (kc nt T B).gl) {id : Nat} {ops : Array Oper} {σ : S} {Q : QC} (hd : dstOk nt ops.toList = true) (h5 : ∀ k op, cl k op ≤ 8) (hsl : (σ.sl.all fun p => decide (p.1 < nt)) = true)
    (hB : lexC T ops cl ops.size 0 (Array.replicate ops.size false) = true)
    (h : ∀ {E' : Entry} (Θ : CtxB Tryd.prog E' (kc nt T B)) (K : S → Prop), Θ.ops = ops.toList → Θ.cl = cl → Θ.n0 = σ.mn → (∀ σ, Q .normal σ → K σ) → PostB Θ (runB (kc nt T B) σ.mn cl (ops.toList.map (·.dst)) 0 ops.toList σ True) K) : WC Tryd.prog E (kc nt T B) (.region id ops true) σ Q := WC.regionB cl envOk lenvOk hG (by kernel_rfl) hd h5 hsl hB h
theorem rgc (cl : Cl) (hG : GlOk E.g0 E.w0 (kc nt T B).gl) {id : Nat} {ops : Array Oper} {y : Code} {σ : S} {Q : QC} (hd : dstOk nt ops.toList = true) (h5 : ∀ k op, cl k op ≤ 8) (hsl : (σ.sl.all fun p => decide (p.1 < nt)) = true)
    (hB : lexC T ops cl ops.size 0 (Array.replicate ops.size false) = true)
    (h : ∀ {E' : Entry} (Θ : CtxB Tryd.prog E' (kc nt T B)) (K : S → Prop), Θ.ops = ops.toList → Θ.cl = cl → Θ.n0 = σ.mn → (∀ σ, WC Tryd.prog E (kc nt T B) y σ Q → K σ) → PostB Θ (runB (kc nt T B) σ.mn cl (ops.toList.map (·.dst)) 0 ops.toList σ True) K) : WC Tryd.prog E (kc nt T B) (.seq (.region id ops true) y) σ Q :=
  WC.seq (rgd cl hG hd h5 hsl hB (fun Θ K a b c hK => h Θ K a b c (fun σ q => hK σ (nxt_n q))))
theorem rgdR (k : Nat) (cl : Cl) (hG : GlOk E.g0 E.w0 (kc nt T B).gl) {id : Nat} {ops : Array Oper} {σ : S} {Q : QC} (hd : dstOk nt ops.toList = true) (h5 : ∀ j op, cl j op ≤ 8 + k) (hsl : (σ.sl.all fun p => decide (p.1 < nt)) = true)
    (hB : lexC T ops cl ops.size 0 (Array.replicate ops.size false) = true)
    (h : ∀ {E' : Entry} (Θ : CtxB Tryd.prog E' (kc nt T B)) (K : S → Prop), Θ.ops = ops.toList → Θ.cl = cl → Θ.n0 = σ.mn → (∀ σ, Q .normal σ → K σ) → PostB Θ (runB (kc nt T B) σ.mn cl (ops.toList.map (·.dst)) 0 ops.toList { σ with mn := σ.mn + k } True) K) : WC Tryd.prog E (kc nt T B) (.region id ops true) σ Q := WC.regionBR k cl envOk lenvOk hG (by kernel_rfl) hd h5 hsl hB h
theorem rgcR (k : Nat) (cl : Cl) (hG : GlOk E.g0 E.w0 (kc nt T B).gl) {id : Nat} {ops : Array Oper} {y : Code} {σ : S} {Q : QC} (hd : dstOk nt ops.toList = true) (h5 : ∀ j op, cl j op ≤ 8 + k) (hsl : (σ.sl.all fun p => decide (p.1 < nt)) = true)
    (hB : lexC T ops cl ops.size 0 (Array.replicate ops.size false) = true)
    (h : ∀ {E' : Entry} (Θ : CtxB Tryd.prog E' (kc nt T B)) (K : S → Prop), Θ.ops = ops.toList → Θ.cl = cl → Θ.n0 = σ.mn → (∀ σ, WC Tryd.prog E (kc nt T B) y σ Q → K σ) → PostB Θ (runB (kc nt T B) σ.mn cl (ops.toList.map (·.dst)) 0 ops.toList { σ with mn := σ.mn + k } True) K) : WC Tryd.prog E (kc nt T B) (.seq (.region id ops true) y) σ Q :=
  WC.seq (rgdR k cl hG hd h5 hsl hB (fun Θ K a b c hK => h Θ K a b c (fun σ q => hK σ (nxt_n q))))
theorem rgdT (t : Nat) (cl : Cl) (hG : GlOk E.g0 E.w0 (kc nt T B).gl) {id : Nat} {ops : Array Oper} {σ : S} {Q : QC} (ht : t ≤ σ.mn) (hd : dstOk nt ops.toList = true) (h5 : ∀ j op, cl j op ≤ 8) (hsl : (σ.sl.all fun p => decide (p.1 < nt)) = true)
    (hB : lexC T ops cl ops.size 0 (Array.replicate ops.size false) = true)
    (h : ∀ {E' : Entry} (Θ : CtxB Tryd.prog E' (kc nt T B)) (K : S → Prop), Θ.ops = ops.toList → Θ.cl = cl → Θ.n0 = t → (∀ σ, Q .normal σ → K σ) → PostB Θ (runB (kc nt T B) t cl (ops.toList.map (·.dst)) 0 ops.toList σ True) K) : WC Tryd.prog E (kc nt T B) (.region id ops true) σ Q := WC.regionBT t cl envOk lenvOk hG (by kernel_rfl) ht hd h5 hsl hB h
theorem rgcT (t : Nat) (cl : Cl) (hG : GlOk E.g0 E.w0 (kc nt T B).gl) {id : Nat} {ops : Array Oper} {y : Code} {σ : S} {Q : QC} (ht : t ≤ σ.mn) (hd : dstOk nt ops.toList = true) (h5 : ∀ j op, cl j op ≤ 8) (hsl : (σ.sl.all fun p => decide (p.1 < nt)) = true)
    (hB : lexC T ops cl ops.size 0 (Array.replicate ops.size false) = true)
    (h : ∀ {E' : Entry} (Θ : CtxB Tryd.prog E' (kc nt T B)) (K : S → Prop), Θ.ops = ops.toList → Θ.cl = cl → Θ.n0 = t → (∀ σ, WC Tryd.prog E (kc nt T B) y σ Q → K σ) → PostB Θ (runB (kc nt T B) t cl (ops.toList.map (·.dst)) 0 ops.toList σ True) K) : WC Tryd.prog E (kc nt T B) (.seq (.region id ops true) y) σ Q :=
  WC.seq (rgdT t cl hG ht hd h5 hsl hB (fun Θ K a b c hK => h Θ K a b c (fun σ q => hK σ (nxt_n q))))
end Go.VL

set_option linter.unusedVariables false
set_option linter.unusedSimpArgs false
set_option maxRecDepth 100000
set_option maxHeartbeats 8000000
open Go.RowKit
namespace Go.VL
open Go.Proofs
theorem Num_sp (n : Int) (hn : n < 9223372036854775808) : Rt 64 [.flat (.int .i64 n)] (.flat (.string (bs (numB n.toNat)))) := by
  have hmax : (if (0 : Int) > n then 0 else n) = ((n.toNat : Nat) : Int) := by split <;> omega
  intro M mn
  refine fnL (C := kc 38 [13, 29] []) (rs := [.tmp 2]) envOk Tryd.func64 (by kernel_rfl) rfl rfl rfl rfl rfl rfl (Low.flat _) ?_
  intro E hG hM
  repeat' (first | (with_reducible first | refine pa ?_ | refine pb ?_ | refine pc ?_ | refine nxt_n ?_ | refine nxt_e ?_ | refine nxt_r ?_ | refine blk_n ?_ | refine blk_r ?_ | refine blk_hit ?_ | refine blk_miss (by rfl) ?_ | refine pd ?_ | refine pe ?_ | refine pf ?_ | refine pg ?_ | apply And.intro) | (refine hK _ ?_; clear hK K hΘ Θ) | (with_reducible first | refine cw1 ?_ | refine cw2 ?_ | exact cw3 | exact cw4) | ((with_reducible first | refine cw5 (fun gg => ?_) | refine cw6 (fun gg => ?_) | refine cw7 (fun gg => ?_)); try simp only [gg]) | refine cs1 hG rfl ?_ ?_ | refine cs2 hG rfl ?_ ?_ | ((first | refine rga hG (by kernel_rfl) (fun Θ K hΘ hK => ?_) | refine rgb hG (by kernel_rfl) (fun Θ K hΘ hK => ?_)); simp (maxSteps := 2000000) only [go_sem, seval, reduceCtorEq, List.append_eq, hmax]) | ((first | refine Post.splitN (fun gg => ?_) (fun gg => ?_) | refine Post.split (fun gg => ?_) (fun gg => ?_)) <;> simp (maxSteps := 2000000) only [go_sem, seval, reduceCtorEq, List.append_eq, gg, hmax]) | (refine finR (by simp only [go_sem, seval, reduceCtorEq, List.append_eq, hmax]; exact rfl) ?_; simp only [go_sem, seval, reduceCtorEq, List.append_eq, hmax]) | refine updL hM ?_ (by omega) | (with_reducible exact fun _ _ => rfl))
  all_goals (first | omega | (simp only [decide_eq_true_eq, decide_eq_false_iff_not] at *; omega) | (simp only [List.length_append, List.length_cons, List.length_nil] <;> omega) | exact one_bv _ | exact one_sv _ | skip)
  refine WC.loopA (fun q : Nat × List UInt8 => ⟨[(4, .flat (.int .i64 q.1)), (3, .sl true 1 q.2.length (bv q.2))], M, mn⟩) (fun q => q.1) (fun q => q.2 ++ le q.1 = le n.toNat) (n.toNat, []) (by simp) (sbs (by simp (maxSteps := 2000000) only [go_sem, seval, reduceCtorEq, List.append_eq, hmax, List.length_nil]) rfl rfl) ?_
  rintro ⟨x, pre⟩ hpre
  simp only at hpre ⊢
  have hl8 : (le n.toNat).length ≤ 8 := le_length 8 _ (by omega)
  have hl : pre.length ≤ 8 := by
    have := congrArg List.length hpre
    rw [List.length_append] at this; omega
  by_cases hx : 0 < x
  · have f1 : ((x : Int) > 0) = True := eq_true (by omega)
    repeat' (first | (with_reducible first | refine pa ?_ | refine pb ?_ | refine pc ?_ | refine nxt_n ?_ | refine nxt_e ?_ | refine nxt_r ?_ | refine blk_n ?_ | refine blk_r ?_ | refine blk_hit ?_ | refine blk_miss (by rfl) ?_ | refine pd ?_ | refine pe ?_ | refine pf ?_ | refine pg ?_ | apply And.intro) | (refine hK _ ?_; clear hK K hΘ Θ) | (with_reducible first | refine cw1 ?_ | refine cw2 ?_ | exact cw3 | exact cw4) | ((with_reducible first | refine cw5 (fun gg => ?_) | refine cw6 (fun gg => ?_) | refine cw7 (fun gg => ?_)); try simp only [gg]) | refine cs1 hG rfl ?_ ?_ | refine cs2 hG rfl ?_ ?_ | ((first | refine rga hG (by kernel_rfl) (fun Θ K hΘ hK => ?_) | refine rgb hG (by kernel_rfl) (fun Θ K hΘ hK => ?_)); simp (maxSteps := 2000000) only [go_sem, seval, reduceCtorEq, List.append_eq, f1, w_byteN, w_shrI8]) | ((first | refine Post.splitN (fun gg => ?_) (fun gg => ?_) | refine Post.split (fun gg => ?_) (fun gg => ?_)) <;> simp (maxSteps := 2000000) only [go_sem, seval, reduceCtorEq, List.append_eq, gg, f1, w_byteN, w_shrI8]) | (refine finR (by simp only [go_sem, seval, reduceCtorEq, List.append_eq, f1, w_byteN, w_shrI8]; exact rfl) ?_; simp only [go_sem, seval, reduceCtorEq, List.append_eq, f1, w_byteN, w_shrI8]) | refine updL hM ?_ (by omega) | (with_reducible exact fun _ _ => rfl))
    all_goals (first | omega | (simp only [decide_eq_true_eq, decide_eq_false_iff_not] at *; omega) | (simp only [List.length_append, List.length_cons, List.length_nil] <;> omega) | exact one_bv _ | exact one_sv _ | skip)
    exact ⟨(x / 256, pre ++ [UInt8.ofNat x]), by simp only; rw [List.append_assoc, ← hpre, le_pos hx, show UInt8.ofNat (x % 256) = UInt8.ofNat x from UInt8.toNat_inj.1 (by simp)]; rfl, by simp only; omega, (sbs (by simp (maxSteps := 2000000) only [go_sem, seval, reduceCtorEq, List.append_eq, len_snoc]) rfl rfl)⟩
  · have f1 : ((x : Int) > 0) = False := eq_false (by omega)
    have hx : x = 0 := by omega
    subst hx
    have hpe : pre = le n.toNat := by rw [← hpre, le_zero, List.append_nil]
    rw [numB, ← hpe]
    have v1 : IntKind.i64.wrap ((pre.length : Int) - 1) = (pre.length : Int) - 1 := wi (by omega) (by omega)
    repeat' (first | (with_reducible first | refine pa ?_ | refine pb ?_ | refine pc ?_ | refine nxt_n ?_ | refine nxt_e ?_ | refine nxt_r ?_ | refine blk_n ?_ | refine blk_r ?_ | refine blk_hit ?_ | refine blk_miss (by rfl) ?_ | refine pd ?_ | refine pe ?_ | refine pf ?_ | refine pg ?_ | apply And.intro) | (refine hK _ ?_; clear hK K hΘ Θ) | (with_reducible first | refine cw1 ?_ | refine cw2 ?_ | exact cw3 | exact cw4) | ((with_reducible first | refine cw5 (fun gg => ?_) | refine cw6 (fun gg => ?_) | refine cw7 (fun gg => ?_)); try simp only [gg]) | refine cs1 hG rfl ?_ ?_ | refine cs2 hG rfl ?_ ?_ | ((first | refine rga hG (by kernel_rfl) (fun Θ K hΘ hK => ?_) | refine rgb hG (by kernel_rfl) (fun Θ K hΘ hK => ?_)); simp (maxSteps := 2000000) only [go_sem, seval, reduceCtorEq, List.append_eq, f1, w_byteN, v1]) | ((first | refine Post.splitN (fun gg => ?_) (fun gg => ?_) | refine Post.split (fun gg => ?_) (fun gg => ?_)) <;> simp (maxSteps := 2000000) only [go_sem, seval, reduceCtorEq, List.append_eq, gg, f1, w_byteN, v1]) | (refine finR (by simp only [go_sem, seval, reduceCtorEq, List.append_eq, f1, w_byteN, v1]; exact rfl) ?_; simp only [go_sem, seval, reduceCtorEq, List.append_eq, f1, w_byteN, v1]) | refine updL hM ?_ (by omega) | (with_reducible exact fun _ _ => rfl))
    all_goals (first | omega | (simp only [decide_eq_true_eq, decide_eq_false_iff_not] at *; omega) | (simp only [List.length_append, List.length_cons, List.length_nil] <;> omega) | exact one_bv _ | exact one_sv _ | skip)
    refine WC.loopA (fun m : Nat => ⟨[(6, .flat (.int .i64 ((m : Int) - 1))), (5, .sl true 1 (UInt8.ofNat pre.length :: (pre.drop m).reverse).length (bv (UInt8.ofNat pre.length :: (pre.drop m).reverse))), (3, .sl false 1 pre.length (bv pre))], M, mn⟩) (fun m => m) (fun m => m ≤ pre.length) pre.length (Nat.le_refl _) (sbs (by simp (maxSteps := 2000000) only [go_sem, seval, reduceCtorEq, List.append_eq, List.drop_length, List.reverse_nil, bv_one]) rfl rfl) ?_
    intro m hm
    have hQ : (UInt8.ofNat pre.length :: (pre.drop m).reverse).length ≤ 100 := by simp; omega
    by_cases h0 : 0 < m
    · have f2 : ((m : Int) - 1 ≥ 0) = True := eq_true (by omega)
      have v2 : ((m : Int) - 1).toNat = m - 1 := by omega
      have v3 : (m - 1 < pre.length) = True := eq_true (by omega)
      have v4 : IntKind.i64.wrap ((m : Int) - 1 - 1) = ((m - 1 : Nat) : Int) - 1 := by rw [wi (by omega) (by omega)]; omega
      have hrev : UInt8.ofNat pre.length :: (pre.drop (m - 1)).reverse = UInt8.ofNat pre.length :: (pre.drop m).reverse ++ [pre.getD (m - 1) 0] := by
        have := List.drop_eq_getElem_cons (l := pre) (i := m - 1) (by omega)
        rw [show m - 1 + 1 = m by omega] at this
        rw [this, List.reverse_cons, List.getD_eq_getElem?_getD, List.getElem?_eq_getElem (by omega)]; rfl
      generalize UInt8.ofNat pre.length :: (pre.drop m).reverse = Q at *
      repeat' (first | (with_reducible first | refine pa ?_ | refine pb ?_ | refine pc ?_ | refine nxt_n ?_ | refine nxt_e ?_ | refine nxt_r ?_ | refine blk_n ?_ | refine blk_r ?_ | refine blk_hit ?_ | refine blk_miss (by rfl) ?_ | refine pd ?_ | refine pe ?_ | refine pf ?_ | refine pg ?_ | apply And.intro) | (refine hK _ ?_; clear hK K hΘ Θ) | (with_reducible first | refine cw1 ?_ | refine cw2 ?_ | exact cw3 | exact cw4) | ((with_reducible first | refine cw5 (fun gg => ?_) | refine cw6 (fun gg => ?_) | refine cw7 (fun gg => ?_)); try simp only [gg]) | refine cs1 hG rfl ?_ ?_ | refine cs2 hG rfl ?_ ?_ | ((first | refine rga hG (by kernel_rfl) (fun Θ K hΘ hK => ?_) | refine rgb hG (by kernel_rfl) (fun Θ K hΘ hK => ?_)); simp (maxSteps := 2000000) only [go_sem, seval, reduceCtorEq, List.append_eq, f2, v2, v3, v4]) | ((first | refine Post.splitN (fun gg => ?_) (fun gg => ?_) | refine Post.split (fun gg => ?_) (fun gg => ?_)) <;> simp (maxSteps := 2000000) only [go_sem, seval, reduceCtorEq, List.append_eq, gg, f2, v2, v3, v4]) | (refine finR (by simp only [go_sem, seval, reduceCtorEq, List.append_eq, f2, v2, v3, v4]; exact rfl) ?_; simp only [go_sem, seval, reduceCtorEq, List.append_eq, f2, v2, v3, v4]) | refine updL hM ?_ (by omega) | (with_reducible exact fun _ _ => rfl))
      all_goals (first | omega | (simp only [decide_eq_true_eq, decide_eq_false_iff_not] at *; omega) | (simp only [List.length_append, List.length_cons, List.length_nil] <;> omega) | exact one_bv _ | exact one_sv _ | skip)
      exact ⟨m - 1, by omega, by omega, (sbs (by simp (maxSteps := 2000000) only [go_sem, seval, reduceCtorEq, List.append_eq, hrev, len_snoc]) rfl rfl)⟩
    · have f2 : ((m : Int) - 1 ≥ 0) = False := eq_false (by omega)
      have : m = 0 := by omega
      subst this
      rw [List.drop_zero]
      generalize UInt8.ofNat pre.length :: pre.reverse = Q at *
      repeat' (first | (with_reducible first | refine pa ?_ | refine pb ?_ | refine pc ?_ | refine nxt_n ?_ | refine nxt_e ?_ | refine nxt_r ?_ | refine blk_n ?_ | refine blk_r ?_ | refine blk_hit ?_ | refine blk_miss (by rfl) ?_ | refine pd ?_ | refine pe ?_ | refine pf ?_ | refine pg ?_ | apply And.intro) | (refine hK _ ?_; clear hK K hΘ Θ) | (with_reducible first | refine cw1 ?_ | refine cw2 ?_ | exact cw3 | exact cw4) | ((with_reducible first | refine cw5 (fun gg => ?_) | refine cw6 (fun gg => ?_) | refine cw7 (fun gg => ?_)); try simp only [gg]) | refine cs1 hG rfl ?_ ?_ | refine cs2 hG rfl ?_ ?_ | ((first | refine rga hG (by kernel_rfl) (fun Θ K hΘ hK => ?_) | refine rgb hG (by kernel_rfl) (fun Θ K hΘ hK => ?_)); simp (maxSteps := 2000000) only [go_sem, seval, reduceCtorEq, List.append_eq, f2]) | ((first | refine Post.splitN (fun gg => ?_) (fun gg => ?_) | refine Post.split (fun gg => ?_) (fun gg => ?_)) <;> simp (maxSteps := 2000000) only [go_sem, seval, reduceCtorEq, List.append_eq, gg, f2]) | (refine finR (by simp only [go_sem, seval, reduceCtorEq, List.append_eq, f2]; exact rfl) ?_; simp only [go_sem, seval, reduceCtorEq, List.append_eq, f2]) | refine updL hM ?_ (by omega) | (with_reducible exact fun _ _ => rfl))
      all_goals (first | omega | (simp only [decide_eq_true_eq, decide_eq_false_iff_not] at *; omega) | (simp only [List.length_append, List.length_cons, List.length_nil] <;> omega) | exact one_bv _ | exact one_sv _ | skip)
theorem List_sp (l : List (List UInt8)) (hs : total l ≤ 1000000000) (hl : l.length ≤ 1000000) : Rt 77 [.sl false 1 l.length (sv l)] (.flat (.string (bs (listB l)))) := by
  have hn := numB_length l.length (by omega)
  intro M mn
  refine fnL (C := kc 26 [16] []) (rs := [.tmp 2]) envOk Tryd.func77 (by kernel_rfl) rfl rfl rfl rfl rfl rfl (Low.flat _) ?_
  intro E hG hM
  repeat' (first | (with_reducible first | refine pa ?_ | refine pb ?_ | refine pc ?_ | refine nxt_n ?_ | refine nxt_e ?_ | refine nxt_r ?_ | refine blk_n ?_ | refine blk_r ?_ | refine blk_hit ?_ | refine blk_miss (by rfl) ?_ | refine pd ?_ | refine pe ?_ | refine pf ?_ | refine pg ?_ | apply And.intro) | (refine hK _ ?_; clear hK K hΘ Θ) | (with_reducible first | refine cw1 ?_ | refine cw2 ?_ | exact cw3 | exact cw4) | ((with_reducible first | refine cw5 (fun gg => ?_) | refine cw6 (fun gg => ?_) | refine cw7 (fun gg => ?_)); try simp only [gg]) | refine cs1 hG rfl ?_ ?_ | refine cs2 hG rfl ?_ ?_ | ((first | refine kg (Num_sp _ (by omega) _ _) rfl hΘ ?_ | refine rga hG (by kernel_rfl) (fun Θ K hΘ hK => ?_) | refine rgb hG (by kernel_rfl) (fun Θ K hΘ hK => ?_)); simp (maxSteps := 2000000) only [go_sem, seval, reduceCtorEq, List.append_eq]) | ((first | refine Post.splitN (fun gg => ?_) (fun gg => ?_) | refine Post.split (fun gg => ?_) (fun gg => ?_)) <;> simp (maxSteps := 2000000) only [go_sem, seval, reduceCtorEq, List.append_eq, gg]) | (refine finR (by simp only [go_sem, seval, reduceCtorEq, List.append_eq]; exact rfl) ?_; simp only [go_sem, seval, reduceCtorEq, List.append_eq]) | refine updL hM ?_ (by omega) | (with_reducible exact fun _ _ => rfl))
  all_goals (first | omega | (simp only [decide_eq_true_eq, decide_eq_false_iff_not] at *; omega) | (simp only [List.length_append, List.length_cons, List.length_nil] <;> omega) | exact one_bv _ | exact one_sv _ | skip)
  refine WC.loopA (fun q : Nat × List UInt8 => ⟨[(12, .flat (.int .i64 q.1)), (11, .flat (.int .i64 l.length)), (10, .sl false 1 l.length (sv l)), (3, .sl true 1 q.2.length (bv q.2))], M, mn⟩) (fun q => l.length - q.1) (fun q => q.1 ≤ l.length ∧ q.2 = numB l.length ++ listTail (l.take q.1)) (0, numB l.length) ⟨by simp, by simp [listTail]⟩ (sbs (by simp (maxSteps := 2000000) only [go_sem, seval, reduceCtorEq, List.append_eq, Int.toNat_natCast]) rfl rfl) ?_
  rintro ⟨i, b⟩ ⟨hi, hb⟩
  simp only at hi hb ⊢
  by_cases h : i < l.length
  · have f1 : ((i : Int) < (l.length : Int)) = True := eq_true (by omega)
    have g1 : (i < l.length) = True := eq_true h
    have hmem : l.getD i [] ∈ l := by
      rw [List.getD_eq_getElem?_getD, List.getElem?_eq_getElem h]; exact List.getElem_mem _
    have hsz := mem_total hmem
    have hnl := numB_length (l.getD i []).length (by omega)
    have htl := listTail_length (l.take i) (by have := total_take l i; omega)
    have htt := total_take l i
    have hll : (l.take i).length ≤ l.length := by simp; omega
    have htn : b.length ≤ 2000000000 := by rw [hb, List.length_append]; omega
    have v1 := wi1 (n := i) (by omega)
    repeat' (first | (with_reducible first | refine pa ?_ | refine pb ?_ | refine pc ?_ | refine nxt_n ?_ | refine nxt_e ?_ | refine nxt_r ?_ | refine blk_n ?_ | refine blk_r ?_ | refine blk_hit ?_ | refine blk_miss (by rfl) ?_ | refine pd ?_ | refine pe ?_ | refine pf ?_ | refine pg ?_ | apply And.intro) | (refine hK _ ?_; clear hK K hΘ Θ) | (with_reducible first | refine cw1 ?_ | refine cw2 ?_ | exact cw3 | exact cw4) | ((with_reducible first | refine cw5 (fun gg => ?_) | refine cw6 (fun gg => ?_) | refine cw7 (fun gg => ?_)); try simp only [gg]) | refine cs1 hG rfl ?_ ?_ | refine cs2 hG rfl ?_ ?_ | ((first | refine kg (Num_sp _ (by omega) _ _) rfl hΘ ?_ | refine rga hG (by kernel_rfl) (fun Θ K hΘ hK => ?_) | refine rgb hG (by kernel_rfl) (fun Θ K hΘ hK => ?_)); simp (maxSteps := 2000000) only [go_sem, seval, reduceCtorEq, List.append_eq, f1, g1, v1]) | ((first | refine Post.splitN (fun gg => ?_) (fun gg => ?_) | refine Post.split (fun gg => ?_) (fun gg => ?_)) <;> simp (maxSteps := 2000000) only [go_sem, seval, reduceCtorEq, List.append_eq, gg, f1, g1, v1]) | (refine finR (by simp only [go_sem, seval, reduceCtorEq, List.append_eq, f1, g1, v1]; exact rfl) ?_; simp only [go_sem, seval, reduceCtorEq, List.append_eq, f1, g1, v1]) | refine updL hM ?_ (by omega) | (with_reducible exact fun _ _ => rfl))
    all_goals (first | omega | (simp only [decide_eq_true_eq, decide_eq_false_iff_not] at *; omega) | (simp only [List.length_append, List.length_cons, List.length_nil] <;> omega) | exact one_bv _ | exact one_sv _ | skip)
    refine ⟨(i + 1, b ++ numB (l.getD i []).length ++ l.getD i []), ⟨by simp only; omega, ?_⟩, by simp only; omega, (sbs (by simp (maxSteps := 2000000) only [go_sem, seval, reduceCtorEq, List.append_eq, List.length_append]) rfl rfl)⟩
    simp only
    rw [hb, take_succ' h, listTail_append, listTail_one, textB]; simp
  · have f1 : ((i : Int) < (l.length : Int)) = False := eq_false (by omega)
    rw [List.take_of_length_le (by omega)] at hb
    repeat' (first | (with_reducible first | refine pa ?_ | refine pb ?_ | refine pc ?_ | refine nxt_n ?_ | refine nxt_e ?_ | refine nxt_r ?_ | refine blk_n ?_ | refine blk_r ?_ | refine blk_hit ?_ | refine blk_miss (by rfl) ?_ | refine pd ?_ | refine pe ?_ | refine pf ?_ | refine pg ?_ | apply And.intro) | (refine hK _ ?_; clear hK K hΘ Θ) | (with_reducible first | refine cw1 ?_ | refine cw2 ?_ | exact cw3 | exact cw4) | ((with_reducible first | refine cw5 (fun gg => ?_) | refine cw6 (fun gg => ?_) | refine cw7 (fun gg => ?_)); try simp only [gg]) | refine cs1 hG rfl ?_ ?_ | refine cs2 hG rfl ?_ ?_ | ((first | refine rga hG (by kernel_rfl) (fun Θ K hΘ hK => ?_) | refine rgb hG (by kernel_rfl) (fun Θ K hΘ hK => ?_)); simp (maxSteps := 2000000) only [go_sem, seval, reduceCtorEq, List.append_eq, f1]) | ((first | refine Post.splitN (fun gg => ?_) (fun gg => ?_) | refine Post.split (fun gg => ?_) (fun gg => ?_)) <;> simp (maxSteps := 2000000) only [go_sem, seval, reduceCtorEq, List.append_eq, gg, f1]) | (refine finR (by simp only [go_sem, seval, reduceCtorEq, List.append_eq, f1]; exact rfl) ?_; simp only [go_sem, seval, reduceCtorEq, List.append_eq, f1]) | refine updL hM ?_ (by omega) | (with_reducible exact fun _ _ => rfl))
    all_goals (first | omega | (simp only [decide_eq_true_eq, decide_eq_false_iff_not] at *; omega) | (simp only [List.length_append, List.length_cons, List.length_nil] <;> omega) | exact one_bv _ | exact one_sv _ | skip)
    all_goals (rw [hb]; rfl)
end Go.VL

set_option linter.unusedVariables false
set_option linter.unusedSimpArgs false
set_option maxRecDepth 100000
set_option maxHeartbeats 8000000
open Go.RowKit
namespace Go.VL
open Go.Proofs
theorem GoodDraft_sp (d : Dr) (hd : d.ok) : Rt 111 [.agg d.c] (.flat (.bool d.good)) := by
  have hf := Dr.fit d hd
  have hz := Dr.fit dr0 (by unfold Dr.ok inR; simp [dr0])
  have f1 := fit_bv d.ref.1 32 d.ref.2
  have f2 := fit_bv z32.1 32 z32.2
  intro M mn
  refine fnL (C := kc 41 [] []) (rs := [.tmp 2]) envOk Tryd.func111 (by kernel_rfl) rfl rfl rfl rfl rfl rfl (Low.flat _) ?_
  intro E hG hM
  repeat' (first | (with_reducible first | refine pa ?_ | refine pb ?_ | refine pc ?_ | refine nxt_n ?_ | refine nxt_e ?_ | refine nxt_r ?_ | refine blk_n ?_ | refine blk_r ?_ | refine blk_hit ?_ | refine blk_miss (by rfl) ?_ | refine pd ?_ | refine pe ?_ | refine pf ?_ | refine pg ?_ | apply And.intro) | (refine hK _ ?_; clear hK K hΘ Θ) | (with_reducible first | refine cw1 ?_ | refine cw2 ?_ | exact cw3 | exact cw4) | ((with_reducible first | refine cw5 (fun gg => ?_) | refine cw6 (fun gg => ?_) | refine cw7 (fun gg => ?_)); try simp only [gg]) | refine cs1 hG rfl ?_ ?_ | refine cs2 hG rfl ?_ ?_ | ((first | refine rga hG (by kernel_rfl) (fun Θ K hΘ hK => ?_) | refine rgb hG (by kernel_rfl) (fun Θ K hΘ hK => ?_)); simp (maxSteps := 2000000) only [go_sem, seval, reduceCtorEq]) | ((first | refine Post.splitN (fun gg => ?_) (fun gg => ?_) | refine Post.split (fun gg => ?_) (fun gg => ?_)) <;> simp (maxSteps := 2000000) only [go_sem, seval, reduceCtorEq, gg]) | (refine finR (by simp only [go_sem, seval, reduceCtorEq]; exact rfl) ?_; simp only [go_sem, seval, reduceCtorEq]) | refine updL hM ?_ (by omega) | (with_reducible exact fun _ _ => rfl))
  all_goals (first | omega | (simp only [decide_eq_true_eq, decide_eq_false_iff_not] at *; omega) | (simp only [List.length_append, List.length_cons, List.length_nil] <;> omega) | exact one_bv _ | exact one_sv _ | skip)
  all_goals
    clear hf hz f1 f2
    simp_all [Dr.good, Dr.kindOk]
    try (first | omega | (rw [Bool.eq_iff_iff]; simp only [Bool.and_eq_true, decide_eq_true_eq]; omega))
theorem draft_sp (d : Dr) (hd : d.ok) (ht : d.key.length + d.val.length ≤ 900000) : Rt 124 [.agg d.c] (.flat (.string (bs d.text))) := by
  obtain ⟨hk, h1, h2⟩ := id hd
  have hk2 : d.k < 9223372036854775808 := by have := hk.2; omega
  have hn := numB_length d.k.toNat (by omega)
  have hb := bytesV_bv d.ref.1
  have htx : bs (listB [numB d.k.toNat, d.key, d.val, d.ref.1]) = bs d.text := rfl
  have tb := take_bv32 d.ref
  intro M mn
  refine fnL (C := kc 15 [] []) (rs := [.tmp 2]) envOk Tryd.func124 (by kernel_rfl) rfl rfl rfl rfl rfl rfl (Low.flat _) ?_
  intro E hG hM
  repeat' (first | (with_reducible first | refine pa ?_ | refine pb ?_ | refine pc ?_ | refine nxt_n ?_ | refine nxt_e ?_ | refine nxt_r ?_ | refine blk_n ?_ | refine blk_r ?_ | refine blk_hit ?_ | refine blk_miss (by rfl) ?_ | refine pd ?_ | refine pe ?_ | refine pf ?_ | refine pg ?_ | apply And.intro) | (refine hK _ ?_; first | clear hK K hn0 hcl hΘ Θ | clear hK K hΘ Θ) | (with_reducible first | refine cw1 ?_ | refine cw2 ?_ | exact cw3 | exact cw4) | ((with_reducible first | refine cw5 (fun gg => ?_) | refine cw6 (fun gg => ?_) | refine cw7 (fun gg => ?_)); try simp only [gg]) | refine cs1 hG rfl ?_ ?_ | refine cs2 hG rfl ?_ ?_ | ((first | refine kf (fun M n => Num_sp d.k hk2 M n) rfl (by decide) cl0 hΘ hcl hn0 ?_ | refine kf (fun M n => List_sp [numB d.k.toNat, d.key, d.val, d.ref.1] (by simp [total, d.ref.2]; omega) (by simp) M n) rfl (by decide) cl0 hΘ hcl hn0 ?_ | refine rga hG (by kernel_rfl) (fun Θ K hΘ hK => ?_) | refine rgb hG (by kernel_rfl) (fun Θ K hΘ hK => ?_) | refine rgc defCl hG (by kernel_rfl) cl0 (by rfl) (by kernel_rfl) (fun Θ K hΘ hcl hn0 hK => ?_) | refine rgd defCl hG (by kernel_rfl) cl0 (by rfl) (by kernel_rfl) (fun Θ K hΘ hcl hn0 hK => ?_)); simp (maxSteps := 2000000) only [go_sem, seval, reduceCtorEq, htx, tb]) | ((first | refine Post.splitN (fun gg => ?_) (fun gg => ?_) | refine PostB.splitN (fun gg => ?_) (fun gg => ?_) | refine Post.split (fun gg => ?_) (fun gg => ?_) | refine PostB.split (fun gg => ?_) (fun gg => ?_)) <;> simp (maxSteps := 2000000) only [go_sem, seval, reduceCtorEq, gg, htx, tb]) | (refine finR (by simp only [go_sem, seval, reduceCtorEq, htx, tb]; exact rfl) ?_; simp only [go_sem, seval, reduceCtorEq, htx, tb]) | refine updL hM ?_ (by omega) | (with_reducible exact fun _ _ => rfl))
  all_goals (first | omega | (simp only [decide_eq_true_eq, decide_eq_false_iff_not] at *; omega) | (simp only [List.length_append, List.length_cons, List.length_nil] <;> omega) | exact one_bv _ | exact one_sv _ | skip)
theorem DraftText_sp (d : Dr) (hd : d.ok) (ht : d.key.length + d.val.length ≤ 900000) : Rt 112 [.agg d.c] (.flat (.string (bs d.text))) := by
  intro M mn
  refine fnL (C := kc 5 [] []) (rs := [.tmp 2]) envOk Tryd.func112 (by kernel_rfl) rfl rfl rfl rfl rfl rfl (Low.flat _) ?_
  intro E hG hM
  repeat' (first | (with_reducible first | refine pa ?_ | refine pb ?_ | refine pc ?_ | refine nxt_n ?_ | refine nxt_e ?_ | refine nxt_r ?_ | refine blk_n ?_ | refine blk_r ?_ | refine blk_hit ?_ | refine blk_miss (by rfl) ?_ | refine pd ?_ | refine pe ?_ | refine pf ?_ | refine pg ?_ | apply And.intro) | (refine hK _ ?_; clear hK K hΘ Θ) | (with_reducible first | refine cw1 ?_ | refine cw2 ?_ | exact cw3 | exact cw4) | ((with_reducible first | refine cw5 (fun gg => ?_) | refine cw6 (fun gg => ?_) | refine cw7 (fun gg => ?_)); try simp only [gg]) | refine cs1 hG rfl ?_ ?_ | refine cs2 hG rfl ?_ ?_ | ((first | refine kg (draft_sp d hd ht _ _) rfl hΘ ?_ | refine rga hG (by kernel_rfl) (fun Θ K hΘ hK => ?_) | refine rgb hG (by kernel_rfl) (fun Θ K hΘ hK => ?_)); simp (maxSteps := 2000000) only [go_sem, seval, reduceCtorEq]) | ((first | refine Post.splitN (fun gg => ?_) (fun gg => ?_) | refine Post.split (fun gg => ?_) (fun gg => ?_)) <;> simp (maxSteps := 2000000) only [go_sem, seval, reduceCtorEq, gg]) | (refine finR (by simp only [go_sem, seval, reduceCtorEq]; exact rfl) ?_; simp only [go_sem, seval, reduceCtorEq]) | refine updL hM ?_ (by omega) | (with_reducible exact fun _ _ => rfl))
  all_goals (first | omega | (simp only [decide_eq_true_eq, decide_eq_false_iff_not] at *; omega) | (simp only [List.length_append, List.length_cons, List.length_nil] <;> omega) | exact one_bv _ | exact one_sv _ | skip)
end Go.VL

set_option linter.unusedVariables false
set_option linter.unusedSimpArgs false
set_option maxRecDepth 100000
set_option maxHeartbeats 8000000
open Go.RowKit
namespace Go.VL
open Go.Proofs
end Go.VL

set_option linter.unusedVariables false
set_option linter.unusedSimpArgs false
set_option maxRecDepth 100000
set_option maxHeartbeats 8000000
open Go.RowKit
namespace Go.VL
open Go.Proofs
end Go.VL

set_option linter.unusedVariables false
set_option linter.unusedSimpArgs false
set_option maxRecDepth 100000
set_option maxHeartbeats 8000000
open Go.RowKit
namespace Go.VL
open Go.Proofs
end Go.VL

set_option linter.unusedVariables false
set_option linter.unusedSimpArgs false
set_option maxRecDepth 100000
set_option maxHeartbeats 8000000
open Go.RowKit
namespace Go.VL
open Go.Proofs
theorem EGood_sp (e : Ent) (he : e.ok) : Rt 82 [.agg e.c] (.flat (.bool e.good)) := by
  have hd := he.2.1
  obtain ⟨i1, i2, i3, i4, i5, i6, i7⟩ := id he
  have hin : ∀ n : Int, 0 ≤ n → n ≤ 3 → inR n := fun n _ _ => ⟨by omega, by omega⟩
  have okD : (entD e.d).ok := ⟨hin 1 (by omega) (by omega), hd, hin 0 (by omega) (by omega), hin 0 (by omega) (by omega), hin 0 (by omega) (by omega), by simp [entD, ent0], by simp [entD, ent0]⟩
  have okO : (entO e.mask e.pay).ok := ⟨hin 3 (by omega) (by omega), dr0_ok, hin 0 (by omega) (by omega), hin 0 (by omega) (by omega), i5, i6, by simp [entO, ent0]⟩
  have f0 := Dr.fit dr0 dr0_ok
  have f1 := Ent.fit e he
  have f2 := Ent.fit _ okD
  have f3 := Ent.fit _ okO
  have f4 := Dr.fit _ hd
  have hD : ({ kind := 1, d := e.d, from_ := ent0.from_, seq := ent0.seq, prev := ent0.prev, mask := ent0.mask, pay := ent0.pay, sig := ent0.sig } : Ent) = entD e.d := rfl
  have hO : ({ kind := 3, d := ent0.d, from_ := ent0.from_, seq := ent0.seq, prev := ent0.prev, mask := e.mask, pay := e.pay, sig := ent0.sig } : Ent) = entO e.mask e.pay := rfl
  intro M mn
  refine fnL (C := kc 74 [] []) (rs := [.tmp 2]) envOk Tryd.func82 (by kernel_rfl) rfl rfl rfl rfl rfl rfl (Low.flat _) ?_
  intro E hG hM
  repeat' (first | (with_reducible first | refine pa ?_ | refine pb ?_ | refine pc ?_ | refine nxt_n ?_ | refine nxt_e ?_ | refine nxt_r ?_ | refine blk_n ?_ | refine blk_r ?_ | refine blk_hit ?_ | refine blk_miss (by rfl) ?_ | refine pd ?_ | refine pe ?_ | refine pf ?_ | refine pg ?_ | apply And.intro) | (refine hK _ ?_; clear hK K hΘ Θ) | (with_reducible first | refine cw1 ?_ | refine cw2 ?_ | exact cw3 | exact cw4) | ((with_reducible first | refine cw5 (fun gg => ?_) | refine cw6 (fun gg => ?_) | refine cw7 (fun gg => ?_)); try simp only [gg]) | refine cs1 hG rfl ?_ ?_ | refine cs2 hG rfl ?_ ?_ | ((first | refine kg (GoodDraft_sp e.d hd _ _) rfl hΘ ?_ | refine rga hG (by kernel_rfl) (fun Θ K hΘ hK => ?_) | refine rgb hG (by kernel_rfl) (fun Θ K hΘ hK => ?_)); simp (maxSteps := 2000000) only [go_sem, seval, reduceCtorEq, List.append_eq, hD, hO]) | ((first | refine Post.splitN (fun gg => ?_) (fun gg => ?_) | refine Post.split (fun gg => ?_) (fun gg => ?_)) <;> simp (maxSteps := 2000000) only [go_sem, seval, reduceCtorEq, List.append_eq, gg, hD, hO]) | (refine finR (by simp only [go_sem, seval, reduceCtorEq, List.append_eq, hD, hO]; exact rfl) ?_; simp only [go_sem, seval, reduceCtorEq, List.append_eq, hD, hO]) | refine updL hM ?_ (by omega) | (with_reducible exact fun _ _ => rfl))
  all_goals (first | omega | (simp only [decide_eq_true_eq, decide_eq_false_iff_not] at *; omega) | (simp only [List.length_append, List.length_cons, List.length_nil] <;> omega) | exact one_bv _ | exact one_sv _ | skip)
  any_goals (first | exact f0 | exact f1 | exact f2 | exact f3 | exact f4)
  all_goals clear f0 f1 f2 f3 f4 hD hO okD okO hin
  all_goals
    have g1 := @Ent.good1 e
    have g2 := @Ent.good2 e
    have g3 := @Ent.good3 e
    have g0 := @Ent.good0 e
    have go := Ent.out_mask e
  all_goals first | (simp_all; done) | (simp_all [Ent.out]; done) | (simp_all [Ent.out] <;> (intros; omega))
end Go.VL

set_option linter.unusedVariables false
set_option linter.unusedSimpArgs false
set_option maxRecDepth 100000
set_option maxHeartbeats 8000000
open Go.RowKit
namespace Go.VL
open Go.Proofs
theorem EText_sp (e : Ent) (he : e.ok) : Rt 84 [.agg e.c] (.flat (.string (bs e.text))) := by
  obtain ⟨i1, i2, i3, i4, i5, i6, i7⟩ := id he
  have n1 : e.kind < 9223372036854775808 := by have := i1.2; omega
  have n2 : e.from_ < 9223372036854775808 := by have := i3.2; omega
  have n3 : e.seq < 9223372036854775808 := by have := i4.2; omega
  have n4 : e.mask < 9223372036854775808 := by have := i5.2; omega
  have n5 : e.d.k < 9223372036854775808 := by have := i2.1.2; omega
  have b1 := numB_length e.kind.toNat (by omega)
  have b2 := numB_length e.from_.toNat (by omega)
  have b3 := numB_length e.seq.toNat (by omega)
  have b4 := numB_length e.mask.toNat (by omega)
  have tb := take_bv32 e.prev
  intro M mn
  refine fnL (C := kc 54 [] []) (rs := [.tmp 2]) envOk Tryd.func84 (by kernel_rfl) rfl rfl rfl rfl rfl rfl (Low.flat _) ?_
  intro E hG hM
  by_cases hg : e.good = true
  · obtain ⟨c1, c2, c3, c4⟩ := Ent.good_le hg
    have b5 := Dr.text_le e.d c3 c4 n5
    have ht : e.text = listB e.parts := if_pos hg
    have t1 : total [numB e.kind.toNat, e.d.text] ≤ 1000000000 := by simp [total]; omega
    have t2 : total [numB e.kind.toNat, numB e.from_.toNat, numB e.seq.toNat, e.prev.1, numB e.mask.toNat, e.pay, e.sig] ≤ 1000000000 := by simp [total, e.prev.2]; omega
    have t3 : total [numB e.kind.toNat, numB e.mask.toNat, e.pay] ≤ 1000000000 := by simp [total]; omega
    by_cases k1 : e.kind = 1
    · have p1 : e.parts = [numB e.kind.toNat, e.d.text] := if_pos k1
      have q1 := eq_true k1
      have hts : bs (listB [numB e.kind.toNat, e.d.text]) = bs e.text := by rw [ht, p1]
      repeat' (first | (with_reducible first | refine pa ?_ | refine pb ?_ | refine pc ?_ | refine nxt_n ?_ | refine nxt_e ?_ | refine nxt_r ?_ | refine blk_n ?_ | refine blk_r ?_ | refine blk_hit ?_ | refine blk_miss (by rfl) ?_ | refine pd ?_ | refine pe ?_ | refine pf ?_ | refine pg ?_ | apply And.intro) | (refine hK _ ?_; first | clear hK K hn0 hcl hΘ Θ | clear hK K hΘ Θ) | (with_reducible first | refine cw1 ?_ | refine cw2 ?_ | exact cw3 | exact cw4) | ((with_reducible first | refine cw5 (fun gg => ?_) | refine cw6 (fun gg => ?_) | refine cw7 (fun gg => ?_)); try simp only [gg]) | refine cs1 hG rfl ?_ ?_ | refine cs2 hG rfl ?_ ?_ | ((first | refine kg (EGood_sp e he _ _) rfl hΘ ?_ | refine kf (fun M n => Num_sp _ n1 M n) rfl (by decide) cl0 hΘ hcl hn0 ?_ | refine kf (fun M n => DraftText_sp e.d i2 (by omega) M n) rfl (by decide) cl0 hΘ hcl hn0 ?_ | refine kf (fun M n => List_sp _ t1 (by simp) M n) rfl (by decide) cl0 hΘ hcl hn0 ?_ | refine rga hG (by kernel_rfl) (fun Θ K hΘ hK => ?_) | refine rgb hG (by kernel_rfl) (fun Θ K hΘ hK => ?_) | refine rgc defCl hG (by kernel_rfl) cl0 (by rfl) (by kernel_rfl) (fun Θ K hΘ hcl hn0 hK => ?_) | refine rgd defCl hG (by kernel_rfl) cl0 (by rfl) (by kernel_rfl) (fun Θ K hΘ hcl hn0 hK => ?_)); simp (maxSteps := 2000000) only [go_sem, seval, reduceCtorEq, hg, q1, hts]) | ((first | refine Post.splitN (fun gg => ?_) (fun gg => ?_) | refine PostB.splitN (fun gg => ?_) (fun gg => ?_) | refine Post.split (fun gg => ?_) (fun gg => ?_) | refine PostB.split (fun gg => ?_) (fun gg => ?_)) <;> simp (maxSteps := 2000000) only [go_sem, seval, reduceCtorEq, gg, hg, q1, hts]) | (refine finR (by simp only [go_sem, seval, reduceCtorEq, hg, q1, hts]; exact rfl) ?_; simp only [go_sem, seval, reduceCtorEq, hg, q1, hts]) | refine updL hM ?_ (by omega) | (with_reducible exact fun _ _ => rfl))
      all_goals (first | omega | (simp only [decide_eq_true_eq, decide_eq_false_iff_not] at *; omega) | (simp only [List.length_append, List.length_cons, List.length_nil] <;> omega) | exact one_bv _ | exact one_sv _ | skip)
    · have q1 := eq_false k1
      by_cases k2 : e.kind = 2
      · have p2 : e.parts = [numB e.kind.toNat, numB e.from_.toNat, numB e.seq.toNat, e.prev.1, numB e.mask.toNat, e.pay, e.sig] := by rw [Ent.parts, if_neg k1, if_pos k2]
        have hts : bs (listB [numB e.kind.toNat, numB e.from_.toNat, numB e.seq.toNat, e.prev.1, numB e.mask.toNat, e.pay, e.sig]) = bs e.text := by rw [ht, p2]
        have q2 := eq_true k2
        repeat' (first | (with_reducible first | refine pa ?_ | refine pb ?_ | refine pc ?_ | refine nxt_n ?_ | refine nxt_e ?_ | refine nxt_r ?_ | refine blk_n ?_ | refine blk_r ?_ | refine blk_hit ?_ | refine blk_miss (by rfl) ?_ | refine pd ?_ | refine pe ?_ | refine pf ?_ | refine pg ?_ | apply And.intro) | (refine hK _ ?_; first | clear hK K hn0 hcl hΘ Θ | clear hK K hΘ Θ) | (with_reducible first | refine cw1 ?_ | refine cw2 ?_ | exact cw3 | exact cw4) | ((with_reducible first | refine cw5 (fun gg => ?_) | refine cw6 (fun gg => ?_) | refine cw7 (fun gg => ?_)); try simp only [gg]) | refine cs1 hG rfl ?_ ?_ | refine cs2 hG rfl ?_ ?_ | ((first | refine kg (EGood_sp e he _ _) rfl hΘ ?_ | refine kf (fun M n => Num_sp _ n1 M n) rfl (by decide) cl0 hΘ hcl hn0 ?_ | refine kf (fun M n => Num_sp _ n2 M n) rfl (by decide) cl0 hΘ hcl hn0 ?_ | refine kf (fun M n => Num_sp _ n3 M n) rfl (by decide) cl0 hΘ hcl hn0 ?_ | refine kf (fun M n => Num_sp _ n4 M n) rfl (by decide) cl0 hΘ hcl hn0 ?_ | refine kf (fun M n => List_sp _ t2 (by simp) M n) rfl (by decide) cl0 hΘ hcl hn0 ?_ | refine rga hG (by kernel_rfl) (fun Θ K hΘ hK => ?_) | refine rgb hG (by kernel_rfl) (fun Θ K hΘ hK => ?_) | refine rgc defCl hG (by kernel_rfl) cl0 (by rfl) (by kernel_rfl) (fun Θ K hΘ hcl hn0 hK => ?_) | refine rgd defCl hG (by kernel_rfl) cl0 (by rfl) (by kernel_rfl) (fun Θ K hΘ hcl hn0 hK => ?_)); simp (maxSteps := 2000000) only [go_sem, seval, reduceCtorEq, hg, q1, q2, hts, tb]) | ((first | refine Post.splitN (fun gg => ?_) (fun gg => ?_) | refine PostB.splitN (fun gg => ?_) (fun gg => ?_) | refine Post.split (fun gg => ?_) (fun gg => ?_) | refine PostB.split (fun gg => ?_) (fun gg => ?_)) <;> simp (maxSteps := 2000000) only [go_sem, seval, reduceCtorEq, gg, hg, q1, q2, hts, tb]) | (refine finR (by simp only [go_sem, seval, reduceCtorEq, hg, q1, q2, hts, tb]; exact rfl) ?_; simp only [go_sem, seval, reduceCtorEq, hg, q1, q2, hts, tb]) | refine updL hM ?_ (by omega) | (with_reducible exact fun _ _ => rfl))
        all_goals (first | omega | (simp only [decide_eq_true_eq, decide_eq_false_iff_not] at *; omega) | (simp only [List.length_append, List.length_cons, List.length_nil] <;> omega) | exact one_bv _ | exact one_sv _ | skip)
      · have p3 : e.parts = [numB e.kind.toNat, numB e.mask.toNat, e.pay] := by rw [Ent.parts, if_neg k1, if_neg k2]
        have q2 := eq_false k2
        have hts : bs (listB [numB e.kind.toNat, numB e.mask.toNat, e.pay]) = bs e.text := by rw [ht, p3]
        repeat' (first | (with_reducible first | refine pa ?_ | refine pb ?_ | refine pc ?_ | refine nxt_n ?_ | refine nxt_e ?_ | refine nxt_r ?_ | refine blk_n ?_ | refine blk_r ?_ | refine blk_hit ?_ | refine blk_miss (by rfl) ?_ | refine pd ?_ | refine pe ?_ | refine pf ?_ | refine pg ?_ | apply And.intro) | (refine hK _ ?_; first | clear hK K hn0 hcl hΘ Θ | clear hK K hΘ Θ) | (with_reducible first | refine cw1 ?_ | refine cw2 ?_ | exact cw3 | exact cw4) | ((with_reducible first | refine cw5 (fun gg => ?_) | refine cw6 (fun gg => ?_) | refine cw7 (fun gg => ?_)); try simp only [gg]) | refine cs1 hG rfl ?_ ?_ | refine cs2 hG rfl ?_ ?_ | ((first | refine kg (EGood_sp e he _ _) rfl hΘ ?_ | refine kf (fun M n => Num_sp _ n1 M n) rfl (by decide) cl0 hΘ hcl hn0 ?_ | refine kf (fun M n => Num_sp _ n4 M n) rfl (by decide) cl0 hΘ hcl hn0 ?_ | refine kf (fun M n => List_sp _ t3 (by simp) M n) rfl (by decide) cl0 hΘ hcl hn0 ?_ | refine rga hG (by kernel_rfl) (fun Θ K hΘ hK => ?_) | refine rgb hG (by kernel_rfl) (fun Θ K hΘ hK => ?_) | refine rgc defCl hG (by kernel_rfl) cl0 (by rfl) (by kernel_rfl) (fun Θ K hΘ hcl hn0 hK => ?_) | refine rgd defCl hG (by kernel_rfl) cl0 (by rfl) (by kernel_rfl) (fun Θ K hΘ hcl hn0 hK => ?_)); simp (maxSteps := 2000000) only [go_sem, seval, reduceCtorEq, hg, q1, q2, hts]) | ((first | refine Post.splitN (fun gg => ?_) (fun gg => ?_) | refine PostB.splitN (fun gg => ?_) (fun gg => ?_) | refine Post.split (fun gg => ?_) (fun gg => ?_) | refine PostB.split (fun gg => ?_) (fun gg => ?_)) <;> simp (maxSteps := 2000000) only [go_sem, seval, reduceCtorEq, gg, hg, q1, q2, hts]) | (refine finR (by simp only [go_sem, seval, reduceCtorEq, hg, q1, q2, hts]; exact rfl) ?_; simp only [go_sem, seval, reduceCtorEq, hg, q1, q2, hts]) | refine updL hM ?_ (by omega) | (with_reducible exact fun _ _ => rfl))
        all_goals (first | omega | (simp only [decide_eq_true_eq, decide_eq_false_iff_not] at *; omega) | (simp only [List.length_append, List.length_cons, List.length_nil] <;> omega) | exact one_bv _ | exact one_sv _ | skip)
  · have hg' : e.good = false := by simpa using hg
    have ht : e.text = [] := if_neg hg
    rw [ht]
    repeat' (first | (with_reducible first | refine pa ?_ | refine pb ?_ | refine pc ?_ | refine nxt_n ?_ | refine nxt_e ?_ | refine nxt_r ?_ | refine blk_n ?_ | refine blk_r ?_ | refine blk_hit ?_ | refine blk_miss (by rfl) ?_ | refine pd ?_ | refine pe ?_ | refine pf ?_ | refine pg ?_ | apply And.intro) | (refine hK _ ?_; first | clear hK K hn0 hcl hΘ Θ | clear hK K hΘ Θ) | (with_reducible first | refine cw1 ?_ | refine cw2 ?_ | exact cw3 | exact cw4) | ((with_reducible first | refine cw5 (fun gg => ?_) | refine cw6 (fun gg => ?_) | refine cw7 (fun gg => ?_)); try simp only [gg]) | refine cs1 hG rfl ?_ ?_ | refine cs2 hG rfl ?_ ?_ | ((first | refine kg (EGood_sp e he _ _) rfl hΘ ?_ | refine rga hG (by kernel_rfl) (fun Θ K hΘ hK => ?_) | refine rgb hG (by kernel_rfl) (fun Θ K hΘ hK => ?_) | refine rgc defCl hG (by kernel_rfl) cl0 (by rfl) (by kernel_rfl) (fun Θ K hΘ hcl hn0 hK => ?_) | refine rgd defCl hG (by kernel_rfl) cl0 (by rfl) (by kernel_rfl) (fun Θ K hΘ hcl hn0 hK => ?_)); simp (maxSteps := 2000000) only [go_sem, seval, reduceCtorEq, hg']) | ((first | refine Post.splitN (fun gg => ?_) (fun gg => ?_) | refine PostB.splitN (fun gg => ?_) (fun gg => ?_) | refine Post.split (fun gg => ?_) (fun gg => ?_) | refine PostB.split (fun gg => ?_) (fun gg => ?_)) <;> simp (maxSteps := 2000000) only [go_sem, seval, reduceCtorEq, gg, hg']) | (refine finR (by simp only [go_sem, seval, reduceCtorEq, hg']; exact rfl) ?_; simp only [go_sem, seval, reduceCtorEq, hg']) | refine updL hM ?_ (by omega) | (with_reducible exact fun _ _ => rfl))
    all_goals (first | omega | (simp only [decide_eq_true_eq, decide_eq_false_iff_not] at *; omega) | (simp only [List.length_append, List.length_cons, List.length_nil] <;> omega) | exact one_bv _ | exact one_sv _ | skip)
end Go.VL

set_option linter.unusedVariables false
set_option linter.unusedSimpArgs false
set_option maxRecDepth 100000
set_option maxHeartbeats 8000000
open Go.RowKit
namespace Go.VL
open Go.Proofs
end Go.VL

set_option linter.unusedVariables false
set_option linter.unusedSimpArgs false
set_option maxRecDepth 100000
set_option maxHeartbeats 8000000
open Go.RowKit
namespace Go.VL
open Go.Proofs
end Go.VL

set_option linter.unusedVariables false
set_option linter.unusedSimpArgs false
set_option maxRecDepth 100000
set_option maxHeartbeats 8000000
open Go.RowKit
namespace Go.VL
open Go.Proofs
end Go.VL

set_option linter.unusedVariables false
set_option linter.unusedSimpArgs false
set_option maxRecDepth 100000
set_option maxHeartbeats 8000000
open Go.RowKit
namespace Go.VL
open Go.Proofs
theorem IdxE_sp (f : FuncId) (p : Ent → Bool) (hf : ∀ e : Ent, e.ok → Rt f [.agg e.c] (.flat (.bool (p e)))) (l : List Ent) (hok : ∀ e ∈ l, e.ok) (hl : l.length ≤ 140737488355328) : Rt 110 [.sl false 73 l.length (Ent.lC l), .fn f []] (.flat (.int .i64 (idxE p l 0))) := by
  intro M mn
  refine fnL (C := kc 19 [] []) (rs := [.tmp 4]) envOk Tryd.func110 (by kernel_rfl) rfl rfl rfl rfl rfl rfl (Low.flat _) ?_
  intro E hG hM
  repeat' (first | (with_reducible first | refine pa ?_ | refine pb ?_ | refine pc ?_ | refine nxt_n ?_ | refine nxt_e ?_ | refine nxt_r ?_ | refine blk_n ?_ | refine blk_r ?_ | refine blk_hit ?_ | refine blk_miss (by rfl) ?_ | refine pd ?_ | refine pe ?_ | refine pf ?_ | refine pg ?_ | apply And.intro) | (refine hK _ ?_; clear hK K hΘ Θ) | (with_reducible first | refine cw1 ?_ | refine cw2 ?_ | exact cw3 | exact cw4) | ((with_reducible first | refine cw5 (fun gg => ?_) | refine cw6 (fun gg => ?_) | refine cw7 (fun gg => ?_)); try simp only [gg]) | refine cs1 hG rfl ?_ ?_ | refine cs2 hG rfl ?_ ?_ | ((first | refine rga hG (by kernel_rfl) (fun Θ K hΘ hK => ?_) | refine rgb hG (by kernel_rfl) (fun Θ K hΘ hK => ?_)); simp (maxSteps := 2000000) only [go_sem, seval, reduceCtorEq]) | ((first | refine Post.splitN (fun gg => ?_) (fun gg => ?_) | refine Post.split (fun gg => ?_) (fun gg => ?_)) <;> simp (maxSteps := 2000000) only [go_sem, seval, reduceCtorEq, gg]) | (refine finR (by simp only [go_sem, seval, reduceCtorEq]; exact rfl) ?_; simp only [go_sem, seval, reduceCtorEq]) | refine updL hM ?_ (by omega) | (with_reducible exact fun _ _ => rfl))
  all_goals (first | omega | (simp only [decide_eq_true_eq, decide_eq_false_iff_not] at *; omega) | (simp only [List.length_append, List.length_cons, List.length_nil] <;> omega) | exact one_bv _ | exact one_sv _ | skip)
  refine WC.loopA (fun i : Nat => ⟨[(8, .flat (.int .i64 i)), (7, .flat (.int .i64 l.length)), (1, .fn f []), (0, .sl false 73 l.length (Ent.lC l))], M, mn⟩) (fun i => l.length - i) (fun i => i ≤ l.length ∧ idxE p l 0 = idxE p (l.drop i) i) 0 ⟨Nat.zero_le _, by simp⟩ (sbs (by simp (maxSteps := 2000000) only [go_sem, seval, reduceCtorEq, List.append_eq]) rfl rfl) ?_
  rintro i ⟨hi, hx⟩
  by_cases h : i < l.length
  · have f1 : ((i : Int) < (l.length : Int)) = True := eq_true (by omega)
    have g1 : (i < l.length) = True := eq_true h
    have v1 := wi1 (n := i) (by omega)
    have hgt := Ent.l_get l ent0 i h
    have hll := Ent.l_len l
    have ht := Ent.tk (l.getD i ent0)
    have he : (l.getD i ent0).ok := hok _ (by rw [List.getD_eq_getElem?_getD, List.getElem?_eq_getElem h]; exact List.getElem_mem _)
    have g2 : (i * 73 + 73 ≤ l.length * 73) = True := eq_true (by omega)
    rw [idxE_drop p l ent0 i i h] at hx
    by_cases hp : p (l.getD i ent0) = true
    · rw [if_pos hp] at hx
      repeat' (first | (with_reducible first | refine pa ?_ | refine pb ?_ | refine pc ?_ | refine nxt_n ?_ | refine nxt_e ?_ | refine nxt_r ?_ | refine blk_n ?_ | refine blk_r ?_ | refine blk_hit ?_ | refine blk_miss (by rfl) ?_ | refine pd ?_ | refine pe ?_ | refine pf ?_ | refine pg ?_ | apply And.intro) | (refine hK _ ?_; clear hK K hΘ Θ) | (with_reducible first | refine cw1 ?_ | refine cw2 ?_ | exact cw3 | exact cw4) | ((with_reducible first | refine cw5 (fun gg => ?_) | refine cw6 (fun gg => ?_) | refine cw7 (fun gg => ?_)); try simp only [gg]) | refine cs1 hG rfl ?_ ?_ | refine cs2 hG rfl ?_ ?_ | ((first | refine kg (hf (l.getD i ent0) he _ _) rfl hΘ ?_ | refine rga hG (by kernel_rfl) (fun Θ K hΘ hK => ?_) | refine rgb hG (by kernel_rfl) (fun Θ K hΘ hK => ?_)); simp (maxSteps := 2000000) only [go_sem, seval, reduceCtorEq, f1, g1, v1, hgt, hll, ht, g2, hp]) | ((first | refine Post.splitN (fun gg => ?_) (fun gg => ?_) | refine Post.split (fun gg => ?_) (fun gg => ?_)) <;> simp (maxSteps := 2000000) only [go_sem, seval, reduceCtorEq, gg, f1, g1, v1, hgt, hll, ht, g2, hp]) | (refine finR (by simp only [go_sem, seval, reduceCtorEq, f1, g1, v1, hgt, hll, ht, g2, hp]; exact rfl) ?_; simp only [go_sem, seval, reduceCtorEq, f1, g1, v1, hgt, hll, ht, g2, hp]) | refine updL hM ?_ (by omega) | (with_reducible exact fun _ _ => rfl))
      all_goals (first | omega | (simp only [decide_eq_true_eq, decide_eq_false_iff_not] at *; omega) | (simp only [List.length_append, List.length_cons, List.length_nil] <;> omega) | exact one_bv _ | exact one_sv _ | skip)
      all_goals rw [hx]
    · have hp' : p (l.getD i ent0) = false := by simpa using hp
      rw [if_neg hp] at hx
      repeat' (first | (with_reducible first | refine pa ?_ | refine pb ?_ | refine pc ?_ | refine nxt_n ?_ | refine nxt_e ?_ | refine nxt_r ?_ | refine blk_n ?_ | refine blk_r ?_ | refine blk_hit ?_ | refine blk_miss (by rfl) ?_ | refine pd ?_ | refine pe ?_ | refine pf ?_ | refine pg ?_ | apply And.intro) | (refine hK _ ?_; clear hK K hΘ Θ) | (with_reducible first | refine cw1 ?_ | refine cw2 ?_ | exact cw3 | exact cw4) | ((with_reducible first | refine cw5 (fun gg => ?_) | refine cw6 (fun gg => ?_) | refine cw7 (fun gg => ?_)); try simp only [gg]) | refine cs1 hG rfl ?_ ?_ | refine cs2 hG rfl ?_ ?_ | ((first | refine kg (hf (l.getD i ent0) he _ _) rfl hΘ ?_ | refine rga hG (by kernel_rfl) (fun Θ K hΘ hK => ?_) | refine rgb hG (by kernel_rfl) (fun Θ K hΘ hK => ?_)); simp (maxSteps := 2000000) only [go_sem, seval, reduceCtorEq, f1, g1, v1, hgt, hll, ht, g2, hp']) | ((first | refine Post.splitN (fun gg => ?_) (fun gg => ?_) | refine Post.split (fun gg => ?_) (fun gg => ?_)) <;> simp (maxSteps := 2000000) only [go_sem, seval, reduceCtorEq, gg, f1, g1, v1, hgt, hll, ht, g2, hp']) | (refine finR (by simp only [go_sem, seval, reduceCtorEq, f1, g1, v1, hgt, hll, ht, g2, hp']; exact rfl) ?_; simp only [go_sem, seval, reduceCtorEq, f1, g1, v1, hgt, hll, ht, g2, hp']) | refine updL hM ?_ (by omega) | (with_reducible exact fun _ _ => rfl))
      all_goals (first | omega | (simp only [decide_eq_true_eq, decide_eq_false_iff_not] at *; omega) | (simp only [List.length_append, List.length_cons, List.length_nil] <;> omega) | exact one_bv _ | exact one_sv _ | skip)
      exact ⟨i + 1, ⟨by omega, by rw [hx]; rfl⟩, by omega, (sbs (by simp (maxSteps := 2000000) only [go_sem, seval, reduceCtorEq, List.append_eq]) rfl rfl)⟩
  · have f1 : ((i : Int) < (l.length : Int)) = False := eq_false (by omega)
    have e : i = l.length := by omega
    subst e
    have hx : idxE p l 0 = -1 := by rw [hx, List.drop_length]; rfl
    rw [hx]
    repeat' (first | (with_reducible first | refine pa ?_ | refine pb ?_ | refine pc ?_ | refine nxt_n ?_ | refine nxt_e ?_ | refine nxt_r ?_ | refine blk_n ?_ | refine blk_r ?_ | refine blk_hit ?_ | refine blk_miss (by rfl) ?_ | refine pd ?_ | refine pe ?_ | refine pf ?_ | refine pg ?_ | apply And.intro) | (refine hK _ ?_; clear hK K hΘ Θ) | (with_reducible first | refine cw1 ?_ | refine cw2 ?_ | exact cw3 | exact cw4) | ((with_reducible first | refine cw5 (fun gg => ?_) | refine cw6 (fun gg => ?_) | refine cw7 (fun gg => ?_)); try simp only [gg]) | refine cs1 hG rfl ?_ ?_ | refine cs2 hG rfl ?_ ?_ | ((first | refine rga hG (by kernel_rfl) (fun Θ K hΘ hK => ?_) | refine rgb hG (by kernel_rfl) (fun Θ K hΘ hK => ?_)); simp (maxSteps := 2000000) only [go_sem, seval, reduceCtorEq, f1]) | ((first | refine Post.splitN (fun gg => ?_) (fun gg => ?_) | refine Post.split (fun gg => ?_) (fun gg => ?_)) <;> simp (maxSteps := 2000000) only [go_sem, seval, reduceCtorEq, gg, f1]) | (refine finR (by simp only [go_sem, seval, reduceCtorEq, f1]; exact rfl) ?_; simp only [go_sem, seval, reduceCtorEq, f1]) | refine updL hM ?_ (by omega) | (with_reducible exact fun _ _ => rfl))
    all_goals (first | omega | (simp only [decide_eq_true_eq, decide_eq_false_iff_not] at *; omega) | (simp only [List.length_append, List.length_cons, List.length_nil] <;> omega) | exact one_bv _ | exact one_sv _ | skip)
theorem ContE_sp (f : FuncId) (p : Ent → Bool) (hf : ∀ e : Ent, e.ok → Rt f [.agg e.c] (.flat (.bool (p e)))) (l : List Ent) (hok : ∀ e ∈ l, e.ok) (hl : l.length ≤ 140737488355328) : Rt 80 [.sl false 73 l.length (Ent.lC l), .fn f []] (.flat (.bool (l.any p))) := by
  have e := idxE_any p l 0 (by omega)
  rw [← e]
  intro M mn
  refine fnL (C := kc 9 [] []) (rs := [.tmp 4]) envOk Tryd.func80 (by kernel_rfl) rfl rfl rfl rfl rfl rfl (Low.flat _) ?_
  intro E hG hM
  repeat' (first | (with_reducible first | refine pa ?_ | refine pb ?_ | refine pc ?_ | refine nxt_n ?_ | refine nxt_e ?_ | refine nxt_r ?_ | refine blk_n ?_ | refine blk_r ?_ | refine blk_hit ?_ | refine blk_miss (by rfl) ?_ | refine pd ?_ | refine pe ?_ | refine pf ?_ | refine pg ?_ | apply And.intro) | (refine hK _ ?_; clear hK K hΘ Θ) | (with_reducible first | refine cw1 ?_ | refine cw2 ?_ | exact cw3 | exact cw4) | ((with_reducible first | refine cw5 (fun gg => ?_) | refine cw6 (fun gg => ?_) | refine cw7 (fun gg => ?_)); try simp only [gg]) | refine cs1 hG rfl ?_ ?_ | refine cs2 hG rfl ?_ ?_ | ((first | refine kg (IdxE_sp f p hf l hok hl _ _) rfl hΘ ?_ | refine rga hG (by kernel_rfl) (fun Θ K hΘ hK => ?_) | refine rgb hG (by kernel_rfl) (fun Θ K hΘ hK => ?_)); simp (maxSteps := 2000000) only [go_sem, seval, reduceCtorEq]) | ((first | refine Post.splitN (fun gg => ?_) (fun gg => ?_) | refine Post.split (fun gg => ?_) (fun gg => ?_)) <;> simp (maxSteps := 2000000) only [go_sem, seval, reduceCtorEq, gg]) | (refine finR (by simp only [go_sem, seval, reduceCtorEq]; exact rfl) ?_; simp only [go_sem, seval, reduceCtorEq]) | refine updL hM ?_ (by omega) | (with_reducible exact fun _ _ => rfl))
  all_goals (first | omega | (simp only [decide_eq_true_eq, decide_eq_false_iff_not] at *; omega) | (simp only [List.length_append, List.length_cons, List.length_nil] <;> omega) | exact one_bv _ | exact one_sv _ | skip)
def cameE (m : Mail) : Ent := ⟨2, dr0, m.auth.node, m.auth.seq, m.prev, m.mask, m.pay, m.auth.sig⟩
end Go.VL

set_option linter.unusedVariables false
set_option linter.unusedSimpArgs false
set_option maxRecDepth 100000
set_option maxHeartbeats 4000000
open Go.RowKit
namespace Go.VL
open Go.Proofs
theorem rot_and : ∀ k : Fin 32, 1 ≤ k.val → andI .u64 (IntKind.u64.wrap (-(k.val : Int))) 31 = ((32 - k.val : Nat) : Int) := by decide
theorem Rot_sp (x : UInt32) (n : Int) (h : decide (-31 ≤ n) && decide (n ≤ -1) = true) : Rt 127 [.flat (.int .u32 x.toNat), .flat (.int .i64 n)] (.flat (.int .u32 (rotr x (-n).toNat).toNat)) := by
  simp only [Bool.and_eq_true, decide_eq_true_eq] at h
  obtain ⟨k, hk, rfl⟩ : ∃ k : Nat, k < 32 ∧ n = -(k : Int) := ⟨(-n).toNat, by omega, by omega⟩
  have e1 := rot_and ⟨k, hk⟩ (show 1 ≤ k by omega)
  simp only at e1
  have e2 : IntKind.u64.wrap (32 - ((32 - k : Nat) : Int)) = (k : Int) := by rw [show (32 - ((32 - k : Nat) : Int)) = (k : Int) by omega, wrap_u64n, Nat.mod_eq_of_lt (by omega)]
  have e3 := w_shlN x (32 - k) (by omega)
  have e4 := w_shrN x k (by omega)
  have e5 : (- -(k : Int)).toNat = k := by omega
  rw [e5]
  have e6 : rotr x k = shl32 x (32 - k) ||| shr32 x k := UInt32.or_comm _ _
  rw [e6]
  intro M mn
  refine fnL (C := kc 17 [] []) (rs := [.tmp 4]) envOk Tryd.func127 (by kernel_rfl) rfl rfl rfl rfl rfl rfl (Low.flat _) ?_
  intro E hG hM
  repeat' (first | (with_reducible first | refine pa ?_ | refine pb ?_ | refine pc ?_ | refine nxt_n ?_ | refine nxt_e ?_ | refine nxt_r ?_ | refine blk_n ?_ | refine blk_r ?_ | refine blk_hit ?_ | refine blk_miss (by rfl) ?_ | refine pd ?_ | refine pe ?_ | refine pf ?_ | refine pg ?_ | apply And.intro) | (refine hK _ ?_; clear hK K hΘ Θ) | (with_reducible first | refine cw1 ?_ | refine cw2 ?_ | exact cw3 | exact cw4) | ((with_reducible first | refine cw5 (fun gg => ?_) | refine cw6 (fun gg => ?_) | refine cw7 (fun gg => ?_)); try simp only [gg]) | refine cs1 hG rfl ?_ ?_ | refine cs2 hG rfl ?_ ?_ | ((first | refine rga hG (by kernel_rfl) (fun Θ K hΘ hK => ?_) | refine rgb hG (by kernel_rfl) (fun Θ K hΘ hK => ?_)); simp (maxSteps := 2000000) only [go_sem, seval, reduceCtorEq, e1, e2, e3, e4]) | ((first | refine Post.splitN (fun gg => ?_) (fun gg => ?_) | refine Post.split (fun gg => ?_) (fun gg => ?_)) <;> simp (maxSteps := 2000000) only [go_sem, seval, reduceCtorEq, gg, e1, e2, e3, e4]) | (refine finR (by simp only [go_sem, seval, reduceCtorEq, e1, e2, e3, e4]; exact rfl) ?_; simp only [go_sem, seval, reduceCtorEq, e1, e2, e3, e4]) | refine updL hM ?_ (by omega) | (with_reducible exact fun _ _ => rfl))
  all_goals (first | omega | (simp only [decide_eq_true_eq, decide_eq_false_iff_not] at *; omega) | (simp only [List.length_append, List.length_cons, List.length_nil] <;> omega) | exact one_bv _ | exact one_sv _ | skip)
end Go.VL

set_option linter.unusedVariables false
set_option linter.unusedSimpArgs false
set_option maxRecDepth 100000
set_option maxHeartbeats 8000000
open Go.RowKit
namespace Go.VL
open Go.Proofs
theorem wArr_lo {p : List UInt8} {i : Nat} (h : i < 16) : wArr p (i + 1) = (wArr p i).set i (wordAt p i) := by rw [wArr, wVal, if_pos h]
theorem wArr_hi {p : List UInt8} {i : Nat} (h : ¬ i < 16) : wArr p (i + 1) = (wArr p i).set i (wNext (wArr p i) i) := by rw [wArr, wVal, if_neg h]
theorem mix_sp (h : List UInt32) (p : List UInt8) (hh : h.length = 8) (hp : p.length = 64) (b : Nat) (M : Mem) (mn : Nat) (hb : M b = some (uv h)) :
    Sp Tryd.prog GL 122 [.bp b 0, .sl false 1 64 (bv p)] M mn (fun r m k => r = .tup [] ∧ m = upd M b (some (uv (compress h p))) ∧ k = mn) := by
  refine fnW (C := kc 191 [] []) (rs := []) (cs0 := uv (compress h p)) envOk Tryd.func122 (by kernel_rfl) rfl rfl rfl rfl rfl rfl (lowTup lowC0) (by rw [hb]; exact fun e => nomatch e) ((FlatS.uv _).low) ?_
  intro E hG hM
  have hbn : b < mn := Nat.lt_of_not_le fun e => by rw [hM b e] at hb; cases hb
  repeat' (first | (with_reducible first | refine pa ?_ | refine pb ?_ | refine pc ?_ | refine nxt_n ?_ | refine nxt_e ?_ | refine nxt_r ?_ | refine blk_n ?_ | refine blk_r ?_ | refine blk_hit ?_ | refine blk_miss (by rfl) ?_ | refine pd ?_ | refine pe ?_ | refine pf ?_ | refine pg ?_ | apply And.intro) | (refine hK _ ?_; first | clear hK K hn0 hcl hΘ Θ | clear hK K hΘ Θ) | (with_reducible first | refine cw1 ?_ | refine cw2 ?_ | exact cw3 | exact cw4) | ((with_reducible first | refine cw5 (fun gg => ?_) | refine cw6 (fun gg => ?_) | refine cw7 (fun gg => ?_)); try simp only [gg]) | refine cs1 hG rfl ?_ ?_ | refine cs2 hG rfl ?_ ?_ | ((first | refine rga hG (by kernel_rfl) (fun Θ K hΘ hK => ?_) | refine rgb hG (by kernel_rfl) (fun Θ K hΘ hK => ?_) | refine rgc defCl hG (by kernel_rfl) cl0 (by rfl) (by kernel_rfl) (fun Θ K hΘ hcl hn0 hK => ?_) | refine rgd defCl hG (by kernel_rfl) cl0 (by rfl) (by kernel_rfl) (fun Θ K hΘ hcl hn0 hK => ?_)); simp (maxSteps := 2000000) only [go_sem, seval, reduceCtorEq, List.append_eq]) | ((first | refine Post.splitN (fun gg => ?_) (fun gg => ?_) | refine PostB.splitN (fun gg => ?_) (fun gg => ?_) | refine Post.split (fun gg => ?_) (fun gg => ?_) | refine PostB.split (fun gg => ?_) (fun gg => ?_)) <;> simp (maxSteps := 2000000) only [go_sem, seval, reduceCtorEq, List.append_eq, gg]) | ((first | refine finR (by simp only [go_sem, seval, reduceCtorEq, List.append_eq]; exact rfl) ?_ | refine finN (by simp only [go_sem, seval, reduceCtorEq, List.append_eq]; exact rfl) ?_); simp only [go_sem, seval, reduceCtorEq, List.append_eq]) | refine updL hM ?_ (by omega) | (with_reducible exact fun _ _ => rfl))
  all_goals (first | omega | (simp only [decide_eq_true_eq, decide_eq_false_iff_not] at *; omega) | (simp only [List.length_append, List.length_cons, List.length_nil] <;> omega) | exact one_bv _ | exact one_sv _ | skip)
  refine WC.loopA (fun i : Nat => ⟨[(15, .flat (.int .i64 i)), (4, .bp mn 0), (1, .sl false 1 64 (bv p)), (0, .bp b 0)], upd M mn (some (uv (wArr p i))), mn + 1⟩) (fun i => 64 - i) (fun i => i ≤ 64) 0 (by omega) (sbs (by simp (maxSteps := 2000000) only [go_sem, seval, reduceCtorEq, List.append_eq]) rfl rfl) ?_
  · intro i hi
    have hl := wArr_len p i
    by_cases h64 : i < 64
    · have f64 : ((i : Int) < 64) = True := eq_true (by omega)
      have g64 : (i < 64) = True := eq_true h64
      have w1 : IntKind.i64.wrap (i + 1) = ((i + 1 : Nat) : Int) := by rw [wi (by omega) (by omega)]; omega
      by_cases h16 : i < 16
      · have f16 : ((i : Int) < 16) = True := eq_true (by omega)
        have a0 : IntKind.i64.wrap (4 * i) = ((4 * i : Nat) : Int) := by rw [wi (by omega) (by omega)]; omega
        have a1 : IntKind.i64.wrap (((4 * i : Nat) : Int) + 1) = ((4 * i + 1 : Nat) : Int) := by rw [wi (by omega) (by omega)]; omega
        have a2 : IntKind.i64.wrap (((4 * i : Nat) : Int) + 2) = ((4 * i + 2 : Nat) : Int) := by rw [wi (by omega) (by omega)]; omega
        have a3 : IntKind.i64.wrap (((4 * i : Nat) : Int) + 3) = ((4 * i + 3 : Nat) : Int) := by rw [wi (by omega) (by omega)]; omega
        have b0 : (4 * i < 64) = True := eq_true (by omega)
        have b1 : (4 * i + 1 < 64) = True := eq_true (by omega)
        have b2 : (4 * i + 2 < 64) = True := eq_true (by omega)
        have b3 : (4 * i + 3 < 64) = True := eq_true (by omega)
        repeat' (first | (with_reducible first | refine pa ?_ | refine pb ?_ | refine pc ?_ | refine nxt_n ?_ | refine nxt_e ?_ | refine nxt_r ?_ | refine blk_n ?_ | refine blk_r ?_ | refine blk_hit ?_ | refine blk_miss (by rfl) ?_ | refine pd ?_ | refine pe ?_ | refine pf ?_ | refine pg ?_ | apply And.intro) | (refine hK _ ?_; first | clear hK K hn0 hcl hΘ Θ | clear hK K hΘ Θ) | (with_reducible first | refine cw1 ?_ | refine cw2 ?_ | exact cw3 | exact cw4) | ((with_reducible first | refine cw5 (fun gg => ?_) | refine cw6 (fun gg => ?_) | refine cw7 (fun gg => ?_)); try simp only [gg]) | refine cs1 hG rfl ?_ ?_ | refine cs2 hG rfl ?_ ?_ | ((first | refine rga hG (by kernel_rfl) (fun Θ K hΘ hK => ?_) | refine rgb hG (by kernel_rfl) (fun Θ K hΘ hK => ?_) | refine rgc defCl hG (by kernel_rfl) cl0 (by rfl) (by kernel_rfl) (fun Θ K hΘ hcl hn0 hK => ?_) | refine rgd defCl hG (by kernel_rfl) cl0 (by rfl) (by kernel_rfl) (fun Θ K hΘ hcl hn0 hK => ?_)); simp (maxSteps := 2000000) only [go_sem, seval, reduceCtorEq, List.append_eq, f64, g64, f16, w1, a0, a1, a2, a3, b0, b1, b2, b3, hl, hp]) | ((first | refine Post.splitN (fun gg => ?_) (fun gg => ?_) | refine PostB.splitN (fun gg => ?_) (fun gg => ?_) | refine Post.split (fun gg => ?_) (fun gg => ?_) | refine PostB.split (fun gg => ?_) (fun gg => ?_)) <;> simp (maxSteps := 2000000) only [go_sem, seval, reduceCtorEq, List.append_eq, gg, f64, g64, f16, w1, a0, a1, a2, a3, b0, b1, b2, b3, hl, hp]) | ((first | refine finR (by simp only [go_sem, seval, reduceCtorEq, List.append_eq, f64, g64, f16, w1, a0, a1, a2, a3, b0, b1, b2, b3, hl, hp]; exact rfl) ?_ | refine finN (by simp only [go_sem, seval, reduceCtorEq, List.append_eq, f64, g64, f16, w1, a0, a1, a2, a3, b0, b1, b2, b3, hl, hp]; exact rfl) ?_); simp only [go_sem, seval, reduceCtorEq, List.append_eq, f64, g64, f16, w1, a0, a1, a2, a3, b0, b1, b2, b3, hl, hp]) | refine updL hM ?_ (by omega) | (with_reducible exact fun _ _ => rfl))
        all_goals (first | omega | (simp only [decide_eq_true_eq, decide_eq_false_iff_not] at *; omega) | (simp only [List.length_append, List.length_cons, List.length_nil] <;> omega) | exact one_bv _ | exact one_sv _ | skip)
        · refine ⟨i + 1, by omega, by omega, sbs (by simp (maxSteps := 2000000) only [go_sem, seval, reduceCtorEq, List.append_eq]) (by rw [wArr_lo h16]; rfl) rfl⟩
        all_goals trace_state
      · have f16 : ((i : Int) < 16) = False := eq_false (by omega)
        have a0 : IntKind.i64.wrap (i - 15) = ((i - 15 : Nat) : Int) := by rw [wi (by omega) (by omega)]; omega
        have a1 : IntKind.i64.wrap (i - 2) = ((i - 2 : Nat) : Int) := by rw [wi (by omega) (by omega)]; omega
        have a2 : IntKind.i64.wrap (i - 16) = ((i - 16 : Nat) : Int) := by rw [wi (by omega) (by omega)]; omega
        have a3 : IntKind.i64.wrap (i - 7) = ((i - 7 : Nat) : Int) := by rw [wi (by omega) (by omega)]; omega
        have b0 : (i - 15 < 64) = True := eq_true (by omega)
        have b1 : (i - 2 < 64) = True := eq_true (by omega)
        have b2 : (i - 16 < 64) = True := eq_true (by omega)
        have b3 : (i - 7 < 64) = True := eq_true (by omega)
        repeat' (first | (with_reducible first | refine pa ?_ | refine pb ?_ | refine pc ?_ | refine nxt_n ?_ | refine nxt_e ?_ | refine nxt_r ?_ | refine blk_n ?_ | refine blk_r ?_ | refine blk_hit ?_ | refine blk_miss (by rfl) ?_ | refine pd ?_ | refine pe ?_ | refine pf ?_ | refine pg ?_ | apply And.intro) | (refine hK _ ?_; first | clear hK K hn0 hcl hΘ Θ | clear hK K hΘ Θ) | (with_reducible first | refine cw1 ?_ | refine cw2 ?_ | exact cw3 | exact cw4) | ((with_reducible first | refine cw5 (fun gg => ?_) | refine cw6 (fun gg => ?_) | refine cw7 (fun gg => ?_)); try simp only [gg]) | refine cs1 hG rfl ?_ ?_ | refine cs2 hG rfl ?_ ?_ | ((first | refine kf (fun M n => Rot_sp _ _ (by decide) M n) rfl (by decide) cl0 hΘ hcl hn0 ?_ | refine rga hG (by kernel_rfl) (fun Θ K hΘ hK => ?_) | refine rgb hG (by kernel_rfl) (fun Θ K hΘ hK => ?_) | refine rgc defCl hG (by kernel_rfl) cl0 (by rfl) (by kernel_rfl) (fun Θ K hΘ hcl hn0 hK => ?_) | refine rgd defCl hG (by kernel_rfl) cl0 (by rfl) (by kernel_rfl) (fun Θ K hΘ hcl hn0 hK => ?_)); simp (maxSteps := 2000000) only [go_sem, seval, reduceCtorEq, List.append_eq, f64, g64, f16, w1, a0, a1, a2, a3, b0, b1, b2, b3, hl]) | ((first | refine Post.splitN (fun gg => ?_) (fun gg => ?_) | refine PostB.splitN (fun gg => ?_) (fun gg => ?_) | refine Post.split (fun gg => ?_) (fun gg => ?_) | refine PostB.split (fun gg => ?_) (fun gg => ?_)) <;> simp (maxSteps := 2000000) only [go_sem, seval, reduceCtorEq, List.append_eq, gg, f64, g64, f16, w1, a0, a1, a2, a3, b0, b1, b2, b3, hl]) | ((first | refine finR (by simp only [go_sem, seval, reduceCtorEq, List.append_eq, f64, g64, f16, w1, a0, a1, a2, a3, b0, b1, b2, b3, hl]; exact rfl) ?_ | refine finN (by simp only [go_sem, seval, reduceCtorEq, List.append_eq, f64, g64, f16, w1, a0, a1, a2, a3, b0, b1, b2, b3, hl]; exact rfl) ?_); simp only [go_sem, seval, reduceCtorEq, List.append_eq, f64, g64, f16, w1, a0, a1, a2, a3, b0, b1, b2, b3, hl]) | refine updL hM ?_ (by omega) | (with_reducible exact fun _ _ => rfl))
        all_goals (first | omega | (simp only [decide_eq_true_eq, decide_eq_false_iff_not] at *; omega) | (simp only [List.length_append, List.length_cons, List.length_nil] <;> omega) | exact one_bv _ | exact one_sv _ | skip)
        · refine ⟨i + 1, by omega, by omega, sbs (by simp (maxSteps := 2000000) only [go_sem, seval, reduceCtorEq, List.append_eq]) (by rw [wArr_hi h16]; rfl) rfl⟩
        all_goals trace_state
    · have f64 : ((i : Int) < 64) = False := eq_false (by omega)
      have e : i = 64 := by omega
      subst e
      generalize hW : wArr p 64 = W at hl ⊢
      have q1 : ∀ x, upd M mn x b = some (uv h) := fun x => by rw [upd_ne _ _ (by omega)]; exact hb
      repeat' (first | (with_reducible first | refine pa ?_ | refine pb ?_ | refine pc ?_ | refine nxt_n ?_ | refine nxt_e ?_ | refine nxt_r ?_ | refine blk_n ?_ | refine blk_r ?_ | refine blk_hit ?_ | refine blk_miss (by rfl) ?_ | refine pd ?_ | refine pe ?_ | refine pf ?_ | refine pg ?_ | apply And.intro) | (refine hK _ ?_; first | clear hK K hn0 hcl hΘ Θ | clear hK K hΘ Θ) | (with_reducible first | refine cw1 ?_ | refine cw2 ?_ | exact cw3 | exact cw4) | ((with_reducible first | refine cw5 (fun gg => ?_) | refine cw6 (fun gg => ?_) | refine cw7 (fun gg => ?_)); try simp only [gg]) | refine cs1 hG rfl ?_ ?_ | refine cs2 hG rfl ?_ ?_ | ((first | refine rga hG (by kernel_rfl) (fun Θ K hΘ hK => ?_) | refine rgb hG (by kernel_rfl) (fun Θ K hΘ hK => ?_) | refine rgc defCl hG (by kernel_rfl) cl0 (by rfl) (by kernel_rfl) (fun Θ K hΘ hcl hn0 hK => ?_) | refine rgd defCl hG (by kernel_rfl) cl0 (by rfl) (by kernel_rfl) (fun Θ K hΘ hcl hn0 hK => ?_)); simp (maxSteps := 2000000) only [go_sem, seval, reduceCtorEq, List.append_eq, f64, q1, hh, hl]) | ((first | refine Post.splitN (fun gg => ?_) (fun gg => ?_) | refine PostB.splitN (fun gg => ?_) (fun gg => ?_) | refine Post.split (fun gg => ?_) (fun gg => ?_) | refine PostB.split (fun gg => ?_) (fun gg => ?_)) <;> simp (maxSteps := 2000000) only [go_sem, seval, reduceCtorEq, List.append_eq, gg, f64, q1, hh, hl]) | ((first | refine finR (by simp only [go_sem, seval, reduceCtorEq, List.append_eq, f64, q1, hh, hl]; exact rfl) ?_ | refine finN (by simp only [go_sem, seval, reduceCtorEq, List.append_eq, f64, q1, hh, hl]; exact rfl) ?_); simp only [go_sem, seval, reduceCtorEq, List.append_eq, f64, q1, hh, hl]) | refine updL hM ?_ (by omega) | (with_reducible exact fun _ _ => rfl))
      all_goals (first | omega | (simp only [decide_eq_true_eq, decide_eq_false_iff_not] at *; omega) | (simp only [List.length_append, List.length_cons, List.length_nil] <;> omega) | exact one_bv _ | exact one_sv _ | skip)
      refine WC.loopA (fun i : Nat => ⟨[(96, .flat (.int .i64 i)), (8, .bp (mn + 1) 0), (4, .bp mn 0), (0, .bp b 0)], upd (upd M mn (some (uv W))) (mn + 1) (some (uv (rounds h W i))), mn + 1 + 1⟩) (fun i => 64 - i) (fun i => i ≤ 64) 0 (by omega) (sbs (by simp (maxSteps := 2000000) only [go_sem, seval, reduceCtorEq, List.append_eq]) rfl rfl) ?_
      intro i hi
      have hs := rounds_len h W hh i
      generalize hS : rounds h W i = s at hs ⊢
      by_cases h64 : i < 64
      · have f64 : ((i : Int) < 64) = True := eq_true (by omega)
        have g64 : (i < 64) = True := eq_true h64
        have w1 : IntKind.i64.wrap (i + 1) = ((i + 1 : Nat) : Int) := by rw [wi (by omega) (by omega)]; omega
        repeat' (first | (with_reducible first | refine pa ?_ | refine pb ?_ | refine pc ?_ | refine nxt_n ?_ | refine nxt_e ?_ | refine nxt_r ?_ | refine blk_n ?_ | refine blk_r ?_ | refine blk_hit ?_ | refine blk_miss (by rfl) ?_ | refine pd ?_ | refine pe ?_ | refine pf ?_ | refine pg ?_ | apply And.intro) | (refine hK _ ?_; first | clear hK K hn0 hcl hΘ Θ | clear hK K hΘ Θ) | (with_reducible first | refine cw1 ?_ | refine cw2 ?_ | exact cw3 | exact cw4) | ((with_reducible first | refine cw5 (fun gg => ?_) | refine cw6 (fun gg => ?_) | refine cw7 (fun gg => ?_)); try simp only [gg]) | refine cs1 hG rfl ?_ ?_ | refine cs2 hG rfl ?_ ?_ | ((first | refine kf (fun M n => Rot_sp _ _ (by decide) M n) rfl (by decide) cl0 hΘ hcl hn0 ?_ | refine rga hG (by kernel_rfl) (fun Θ K hΘ hK => ?_) | refine rgb hG (by kernel_rfl) (fun Θ K hΘ hK => ?_) | refine rgc defCl hG (by kernel_rfl) cl0 (by rfl) (by kernel_rfl) (fun Θ K hΘ hcl hn0 hK => ?_) | refine rgd defCl hG (by kernel_rfl) cl0 (by rfl) (by kernel_rfl) (fun Θ K hΘ hcl hn0 hK => ?_)); simp (maxSteps := 2000000) only [go_sem, seval, reduceCtorEq, List.append_eq, f64, g64, w1, hs, hl]) | ((first | refine Post.splitN (fun gg => ?_) (fun gg => ?_) | refine PostB.splitN (fun gg => ?_) (fun gg => ?_) | refine Post.split (fun gg => ?_) (fun gg => ?_) | refine PostB.split (fun gg => ?_) (fun gg => ?_)) <;> simp (maxSteps := 2000000) only [go_sem, seval, reduceCtorEq, List.append_eq, gg, f64, g64, w1, hs, hl]) | ((first | refine finR (by simp only [go_sem, seval, reduceCtorEq, List.append_eq, f64, g64, w1, hs, hl]; exact rfl) ?_ | refine finN (by simp only [go_sem, seval, reduceCtorEq, List.append_eq, f64, g64, w1, hs, hl]; exact rfl) ?_); simp only [go_sem, seval, reduceCtorEq, List.append_eq, f64, g64, w1, hs, hl]) | refine updL hM ?_ (by omega) | (with_reducible exact fun _ _ => rfl))
        all_goals (first | omega | (simp only [decide_eq_true_eq, decide_eq_false_iff_not] at *; omega) | (simp only [List.length_append, List.length_cons, List.length_nil] <;> omega) | exact one_bv _ | exact one_sv _ | skip)
        refine ⟨i + 1, by omega, by omega, sbs (by simp (maxSteps := 2000000) only [go_sem, seval, reduceCtorEq, List.append_eq]) (by rw [rounds, hS]; rfl) rfl⟩
      · have f64 : ((i : Int) < 64) = False := eq_false (by omega)
        have e : i = 64 := by omega
        subst e
        have q2 : ∀ x y, upd (upd M mn x) (mn + 1) y b = some (uv h) := fun x y => by rw [upd_ne _ _ (by omega), q1]
        repeat' (first | (with_reducible first | refine pa ?_ | refine pb ?_ | refine pc ?_ | refine nxt_n ?_ | refine nxt_e ?_ | refine nxt_r ?_ | refine blk_n ?_ | refine blk_r ?_ | refine blk_hit ?_ | refine blk_miss (by rfl) ?_ | refine pd ?_ | refine pe ?_ | refine pf ?_ | refine pg ?_ | apply And.intro) | (refine hK _ ?_; first | clear hK K hn0 hcl hΘ Θ | clear hK K hΘ Θ) | (with_reducible first | refine cw1 ?_ | refine cw2 ?_ | exact cw3 | exact cw4) | ((with_reducible first | refine cw5 (fun gg => ?_) | refine cw6 (fun gg => ?_) | refine cw7 (fun gg => ?_)); try simp only [gg]) | refine cs1 hG rfl ?_ ?_ | refine cs2 hG rfl ?_ ?_ | ((first | refine rga hG (by kernel_rfl) (fun Θ K hΘ hK => ?_) | refine rgb hG (by kernel_rfl) (fun Θ K hΘ hK => ?_) | refine rgc defCl hG (by kernel_rfl) cl0 (by rfl) (by kernel_rfl) (fun Θ K hΘ hcl hn0 hK => ?_) | refine rgd defCl hG (by kernel_rfl) cl0 (by rfl) (by kernel_rfl) (fun Θ K hΘ hcl hn0 hK => ?_)); simp (maxSteps := 2000000) only [go_sem, seval, reduceCtorEq, List.append_eq, f64]) | ((first | refine Post.splitN (fun gg => ?_) (fun gg => ?_) | refine PostB.splitN (fun gg => ?_) (fun gg => ?_) | refine Post.split (fun gg => ?_) (fun gg => ?_) | refine PostB.split (fun gg => ?_) (fun gg => ?_)) <;> simp (maxSteps := 2000000) only [go_sem, seval, reduceCtorEq, List.append_eq, gg, f64]) | ((first | refine finR (by simp only [go_sem, seval, reduceCtorEq, List.append_eq, f64]; exact rfl) ?_ | refine finN (by simp only [go_sem, seval, reduceCtorEq, List.append_eq, f64]; exact rfl) ?_); simp only [go_sem, seval, reduceCtorEq, List.append_eq, f64]) | refine updL hM ?_ (by omega) | (with_reducible exact fun _ _ => rfl))
        all_goals (first | omega | (simp only [decide_eq_true_eq, decide_eq_false_iff_not] at *; omega) | (simp only [List.length_append, List.length_cons, List.length_nil] <;> omega) | exact one_bv _ | exact one_sv _ | skip)
        refine WC.loopA (fun i : Nat => ⟨[(176, .flat (.int .i64 i)), (8, .bp (mn + 1) 0), (4, .bp mn 0), (0, .bp b 0)], upd (upd (upd M b (some (uv (addTo h s i)))) mn (some (uv W))) (mn + 1) (some (uv s)), mn + 1 + 1⟩) (fun i => 8 - i) (fun i => i ≤ 8) 0 (by omega) (sbs (by simp (maxSteps := 2000000) only [go_sem, seval, reduceCtorEq, List.append_eq]) (by rw [addTo, upd_id hb]) rfl) ?_
        intro i hi
        have hg := addTo_len h s i
        rw [hh] at hg
        generalize hA : addTo h s i = g at hg ⊢
        by_cases h8 : i < 8
        · have f8 : ((i : Int) < 8) = True := eq_true (by omega)
          have g8 : (i < 8) = True := eq_true h8
          have w1 : IntKind.i64.wrap (i + 1) = ((i + 1 : Nat) : Int) := by rw [wi (by omega) (by omega)]; omega
          have q3 : ∀ x y z, upd (upd (upd M b z) mn x) (mn + 1) y b = z := fun x y z => by rw [upd_ne _ _ (by omega), upd_ne _ _ (by omega), upd_same]
          have q4 : ∀ x y z t, upd (upd (upd (upd M b z) mn x) (mn + 1) y) b t = upd (upd (upd M b t) mn x) (mn + 1) y := fun x y z t => by rw [upd_swap (by omega), upd_swap (M := upd M b z) (by omega), upd_upd]
          repeat' (first | (with_reducible first | refine pa ?_ | refine pb ?_ | refine pc ?_ | refine nxt_n ?_ | refine nxt_e ?_ | refine nxt_r ?_ | refine blk_n ?_ | refine blk_r ?_ | refine blk_hit ?_ | refine blk_miss (by rfl) ?_ | refine pd ?_ | refine pe ?_ | refine pf ?_ | refine pg ?_ | apply And.intro) | (refine hK _ ?_; first | clear hK K hn0 hcl hΘ Θ | clear hK K hΘ Θ) | (with_reducible first | refine cw1 ?_ | refine cw2 ?_ | exact cw3 | exact cw4) | ((with_reducible first | refine cw5 (fun gg => ?_) | refine cw6 (fun gg => ?_) | refine cw7 (fun gg => ?_)); try simp only [gg]) | refine cs1 hG rfl ?_ ?_ | refine cs2 hG rfl ?_ ?_ | ((first | refine rga hG (by kernel_rfl) (fun Θ K hΘ hK => ?_) | refine rgb hG (by kernel_rfl) (fun Θ K hΘ hK => ?_) | refine rgc defCl hG (by kernel_rfl) cl0 (by rfl) (by kernel_rfl) (fun Θ K hΘ hcl hn0 hK => ?_) | refine rgd defCl hG (by kernel_rfl) cl0 (by rfl) (by kernel_rfl) (fun Θ K hΘ hcl hn0 hK => ?_)); simp (maxSteps := 2000000) only [go_sem, seval, reduceCtorEq, List.append_eq, f8, g8, w1, hs, hl, hg, q3, q4]) | ((first | refine Post.splitN (fun gg => ?_) (fun gg => ?_) | refine PostB.splitN (fun gg => ?_) (fun gg => ?_) | refine Post.split (fun gg => ?_) (fun gg => ?_) | refine PostB.split (fun gg => ?_) (fun gg => ?_)) <;> simp (maxSteps := 2000000) only [go_sem, seval, reduceCtorEq, List.append_eq, gg, f8, g8, w1, hs, hl, hg, q3, q4]) | ((first | refine finR (by simp only [go_sem, seval, reduceCtorEq, List.append_eq, f8, g8, w1, hs, hl, hg, q3, q4]; exact rfl) ?_ | refine finN (by simp only [go_sem, seval, reduceCtorEq, List.append_eq, f8, g8, w1, hs, hl, hg, q3, q4]; exact rfl) ?_); simp only [go_sem, seval, reduceCtorEq, List.append_eq, f8, g8, w1, hs, hl, hg, q3, q4]) | refine updL hM ?_ (by omega) | (with_reducible exact fun _ _ => rfl))
          all_goals (first | omega | (simp only [decide_eq_true_eq, decide_eq_false_iff_not] at *; omega) | (simp only [List.length_append, List.length_cons, List.length_nil] <;> omega) | exact one_bv _ | exact one_sv _ | skip)
          refine ⟨i + 1, by omega, by omega, sbs (by simp (maxSteps := 2000000) only [go_sem, seval, reduceCtorEq, List.append_eq]) (by rw [addTo, hA]) rfl⟩
        · have f8 : ((i : Int) < 8) = False := eq_false (by omega)
          have e : i = 8 := by omega
          subst e
          repeat' (first | (with_reducible first | refine pa ?_ | refine pb ?_ | refine pc ?_ | refine nxt_n ?_ | refine nxt_e ?_ | refine nxt_r ?_ | refine blk_n ?_ | refine blk_r ?_ | refine blk_hit ?_ | refine blk_miss (by rfl) ?_ | refine pd ?_ | refine pe ?_ | refine pf ?_ | refine pg ?_ | apply And.intro) | (refine hK _ ?_; first | clear hK K hn0 hcl hΘ Θ | clear hK K hΘ Θ) | (with_reducible first | refine cw1 ?_ | refine cw2 ?_ | exact cw3 | exact cw4) | ((with_reducible first | refine cw5 (fun gg => ?_) | refine cw6 (fun gg => ?_) | refine cw7 (fun gg => ?_)); try simp only [gg]) | refine cs1 hG rfl ?_ ?_ | refine cs2 hG rfl ?_ ?_ | ((first | refine rga hG (by kernel_rfl) (fun Θ K hΘ hK => ?_) | refine rgb hG (by kernel_rfl) (fun Θ K hΘ hK => ?_) | refine rgc defCl hG (by kernel_rfl) cl0 (by rfl) (by kernel_rfl) (fun Θ K hΘ hcl hn0 hK => ?_) | refine rgd defCl hG (by kernel_rfl) cl0 (by rfl) (by kernel_rfl) (fun Θ K hΘ hcl hn0 hK => ?_)); simp (maxSteps := 2000000) only [go_sem, seval, reduceCtorEq, List.append_eq, f8]) | ((first | refine Post.splitN (fun gg => ?_) (fun gg => ?_) | refine PostB.splitN (fun gg => ?_) (fun gg => ?_) | refine Post.split (fun gg => ?_) (fun gg => ?_) | refine PostB.split (fun gg => ?_) (fun gg => ?_)) <;> simp (maxSteps := 2000000) only [go_sem, seval, reduceCtorEq, List.append_eq, gg, f8]) | ((first | refine finR (by simp only [go_sem, seval, reduceCtorEq, List.append_eq, f8]; exact rfl) ?_ | refine finN (by simp only [go_sem, seval, reduceCtorEq, List.append_eq, f8]; exact rfl) ?_); simp only [go_sem, seval, reduceCtorEq, List.append_eq, f8]) | refine updL hM ?_ (by omega) | (with_reducible exact fun _ _ => rfl))
          all_goals (first | omega | (simp only [decide_eq_true_eq, decide_eq_false_iff_not] at *; omega) | (simp only [List.length_append, List.length_cons, List.length_nil] <;> omega) | exact one_bv _ | exact one_sv _ | skip)
          have hc : compress h p = g := by rw [compress, hW, hS, hA]
          rw [hc]
          have hs : ∀ b', upd M b (some (uv g)) b' ≠ none → b' < mn := fun b' h' => Nat.lt_of_not_le fun e => by
            rw [upd_ne _ _ (by omega)] at h'
            exact h' (hM b' e)
          exact updW hM (updW hM (fun _ _ => rfl) hs (by omega)) hs (by omega)
end Go.VL
