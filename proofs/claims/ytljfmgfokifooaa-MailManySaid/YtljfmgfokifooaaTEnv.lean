/- Part TEnv of the proof: made for this claim. -/
import Derived.Test.YtljfmgfokifooaaStEnt
import Derived.Test.YtljfmgfokifooaaStAu
import Derived.Test.YtljfmgfokifooaaStMl
import Derived.Test.YtljfmgfokifooaaShaSpec
import Derived.Test.YtljfmgfokifooaaPackSpec
import Derived.Test.YtljfmgfokifooaaProg
import Derived.KernelRfl
set_option linter.unusedVariables false
set_option maxRecDepth 100000
open Go.RowKit
namespace Go.VL
open Go.Proofs
def envH : Env := [(3, ⟨.int .i64, 1, 8, false, true, [.flat (.int .i64 0)]⟩),
  (4, ⟨.bool, 1, 1, false, true, [.flat (.bool false)]⟩),
  (5, ⟨.int .u8, 1, 1, false, true, [.flat (.int .u8 0)]⟩),
  (9, ⟨.str, 1, 16, false, true, [.flat (.string ByteArray.empty)]⟩),
  (23, ⟨.arr 32 5, 32, 32, true, true, bv z32.1⟩),
  (25, ⟨.st [(0, 3, true), (1, 3, true), (2, 23, true), (34, 9, true)], 35, 64, true, true, Au.c au0⟩),
  (26, ⟨.sl 25, 1, 24, false, true, [.nil]⟩),
  (27, ⟨.sl 37, 1, 24, false, true, [.nil]⟩),
  (28, ⟨.sl 9, 1, 24, false, true, [.nil]⟩),
  (30, ⟨.st [(0, 3, true), (1, 3, true), (2, 3, true), (3, 3, true), (4, 23, true), (36, 3, true), (37, 9, true), (38, 3, true), (39, 25, true), (74, 26, true), (75, 27, true), (76, 28, true)], 77, 232, true, true, Ml.c ml0⟩),
  (35, ⟨.st [(0, 3, true), (1, 9, true), (2, 9, true), (3, 23, true)], 35, 72, true, true, Dr.c dr0⟩),
  (37, ⟨.st [(0, 3, true), (1, 35, true), (36, 3, true), (37, 3, true), (38, 23, true), (70, 3, true), (71, 9, true), (72, 9, true)], 73, 168, true, true, Ent.c ent0⟩),
  (39, ⟨.int .i64, 1, 8, false, true, [.flat (.int .i64 0)]⟩),
  (46, ⟨.sl 5, 1, 24, false, true, [.nil]⟩),
  (49, ⟨.oth, 1, 8, false, true, [.flat .nilFunc]⟩),
  (52, ⟨.oth, 1, 8, false, true, [.flat .nilFunc]⟩),
  (53, ⟨.arr 3 3, 3, 24, true, true, List.replicate 3 (.flat (.int .i64 0) : V)⟩),
  (58, ⟨.arr 4 3, 4, 32, true, true, List.replicate 4 (.flat (.int .i64 0) : V)⟩),
  (63, ⟨.ptr 65, 1, 8, false, true, [.flat (.pointer none)]⟩),
  (65, ⟨.st [(0, 28, true), (1, 4, true)], 2, 32, true, true, [.nil] ++ [.flat (.bool false)]⟩),
  (88, ⟨.ptr 103, 1, 8, false, true, [.flat (.pointer none)]⟩),
  (103, ⟨.st [(0, 9, true), (1, 4, true)], 2, 24, true, true, [.flat (.string ByteArray.empty)] ++ [.flat (.bool false)]⟩)]
theorem envOk : EnvOk Try.prog envH := EnvOk.of (by kernel_rfl)
@[go_sem] theorem e3 : Env.get envH 3 = some ⟨.int .i64, 1, 8, false, true, [.flat (.int .i64 0)]⟩ := rfl
@[go_sem] theorem e4 : Env.get envH 4 = some ⟨.bool, 1, 1, false, true, [.flat (.bool false)]⟩ := rfl
@[go_sem] theorem e5 : Env.get envH 5 = some ⟨.int .u8, 1, 1, false, true, [.flat (.int .u8 0)]⟩ := rfl
@[go_sem] theorem e9 : Env.get envH 9 = some ⟨.str, 1, 16, false, true, [.flat (.string ByteArray.empty)]⟩ := rfl
@[go_sem] theorem e23 : Env.get envH 23 = some ⟨.arr 32 5, 32, 32, true, true, bv z32.1⟩ := rfl
@[go_sem] theorem e25 : Env.get envH 25 = some ⟨.st [(0, 3, true), (1, 3, true), (2, 23, true), (34, 9, true)], 35, 64, true, true, Au.c au0⟩ := rfl
@[go_sem] theorem e26 : Env.get envH 26 = some ⟨.sl 25, 1, 24, false, true, [.nil]⟩ := rfl
@[go_sem] theorem e27 : Env.get envH 27 = some ⟨.sl 37, 1, 24, false, true, [.nil]⟩ := rfl
@[go_sem] theorem e28 : Env.get envH 28 = some ⟨.sl 9, 1, 24, false, true, [.nil]⟩ := rfl
@[go_sem] theorem e30 : Env.get envH 30 = some ⟨.st [(0, 3, true), (1, 3, true), (2, 3, true), (3, 3, true), (4, 23, true), (36, 3, true), (37, 9, true), (38, 3, true), (39, 25, true), (74, 26, true), (75, 27, true), (76, 28, true)], 77, 232, true, true, Ml.c ml0⟩ := rfl
@[go_sem] theorem e35 : Env.get envH 35 = some ⟨.st [(0, 3, true), (1, 9, true), (2, 9, true), (3, 23, true)], 35, 72, true, true, Dr.c dr0⟩ := rfl
@[go_sem] theorem e37 : Env.get envH 37 = some ⟨.st [(0, 3, true), (1, 35, true), (36, 3, true), (37, 3, true), (38, 23, true), (70, 3, true), (71, 9, true), (72, 9, true)], 73, 168, true, true, Ent.c ent0⟩ := rfl
@[go_sem] theorem e39 : Env.get envH 39 = some ⟨.int .i64, 1, 8, false, true, [.flat (.int .i64 0)]⟩ := rfl
@[go_sem] theorem e46 : Env.get envH 46 = some ⟨.sl 5, 1, 24, false, true, [.nil]⟩ := rfl
@[go_sem] theorem e49 : Env.get envH 49 = some ⟨.oth, 1, 8, false, true, [.flat .nilFunc]⟩ := rfl
@[go_sem] theorem e52 : Env.get envH 52 = some ⟨.oth, 1, 8, false, true, [.flat .nilFunc]⟩ := rfl
@[go_sem] theorem e53 : Env.get envH 53 = some ⟨.arr 3 3, 3, 24, true, true, List.replicate 3 (.flat (.int .i64 0) : V)⟩ := rfl
@[go_sem] theorem e58 : Env.get envH 58 = some ⟨.arr 4 3, 4, 32, true, true, List.replicate 4 (.flat (.int .i64 0) : V)⟩ := rfl
@[go_sem] theorem e63 : Env.get envH 63 = some ⟨.ptr 65, 1, 8, false, true, [.flat (.pointer none)]⟩ := rfl
@[go_sem] theorem e65 : Env.get envH 65 = some ⟨.st [(0, 28, true), (1, 4, true)], 2, 32, true, true, [.nil] ++ [.flat (.bool false)]⟩ := rfl
@[go_sem] theorem e88 : Env.get envH 88 = some ⟨.ptr 103, 1, 8, false, true, [.flat (.pointer none)]⟩ := rfl
@[go_sem] theorem e103 : Env.get envH 103 = some ⟨.st [(0, 9, true), (1, 4, true)], 2, 24, true, true, [.flat (.string ByteArray.empty)] ++ [.flat (.bool false)]⟩ := rfl
def envL : LEnv := [(23, ckB 32),
  (25, ([.int .i64]) ++ ([.int .i64]) ++ (ckB 32) ++ ([.str])),
  (35, ([.int .i64]) ++ ([.str]) ++ ([.str]) ++ (ckB 32)),
  (37, ([.int .i64]) ++ (([.int .i64]) ++ ([.str]) ++ ([.str]) ++ (ckB 32)) ++ ([.int .i64]) ++ ([.int .i64]) ++ (ckB 32) ++ ([.int .i64]) ++ ([.str]) ++ ([.str]))]
theorem lenvOk : LEnvOk Try.prog envL := by unfold LEnvOk; kernel_rfl
@[go_sem] theorem l23 : LEnv.get envL 23 = some (ckB 32) := rfl
@[go_sem] theorem l25 : LEnv.get envL 25 = some (([.int .i64]) ++ ([.int .i64]) ++ (ckB 32) ++ ([.str])) := rfl
@[go_sem] theorem l35 : LEnv.get envL 35 = some (([.int .i64]) ++ ([.str]) ++ ([.str]) ++ (ckB 32)) := rfl
@[go_sem] theorem l37 : LEnv.get envL 37 = some (([.int .i64]) ++ (([.int .i64]) ++ ([.str]) ++ ([.str]) ++ (ckB 32)) ++ ([.int .i64]) ++ ([.int .i64]) ++ (ckB 32) ++ ([.int .i64]) ++ ([.str]) ++ ([.str])) := rfl
def GL : Nat → Option (List V) := fun _ => none
def kc (nt : Nat) (T B : List Nat) : Cfg := ⟨envH, envL, GL, nt, T, B⟩
variable {E : Entry} {nt : Nat} {T B : List Nat}
@[go_sem] theorem kc_H : (kc nt T B).H = envH := rfl
@[go_sem] theorem kc_L : (kc nt T B).L = envL := rfl
@[go_sem] theorem kc_gl : (kc nt T B).gl = GL := rfl
@[go_sem] theorem kc_nt : (kc nt T B).nt = nt := rfl
@[go_sem] theorem kc_T : (kc nt T B).T = T := rfl
@[go_sem] theorem kc_B : (kc nt T B).B = B := rfl
abbrev Rt (f : FuncId) (args : List V) (X : V) : Prop := ∀ M mn, Sp Try.prog GL f args M mn (fun r m k => r = X ∧ m = M ∧ k = mn)
theorem rga (hG : GlOk E.g0 E.w0 (kc nt T B).gl) {id : Nat} {ops : Array Oper} {y : Code} {σ : S} {Q : QC} (hd : dstOk nt ops.toList = true)
    (h : ∀ (Θ : Ctx Try.prog E (kc nt T B)) (K : S → Prop), Θ.ops = ops.toList → (∀ σ, WC Try.prog E (kc nt T B) y σ Q → K σ) → Post Θ (run (kc nt T B) (ops.toList.map (·.dst)) ops.toList σ True) K) : WC Try.prog E (kc nt T B) (.seq (.region id ops false) y) σ Q := WC.regionSeq envOk lenvOk hG hd h
theorem rgb (hG : GlOk E.g0 E.w0 (kc nt T B).gl) {id : Nat} {ops : Array Oper} {σ : S} {Q : QC} (hd : dstOk nt ops.toList = true)
    (h : ∀ (Θ : Ctx Try.prog E (kc nt T B)) (K : S → Prop), Θ.ops = ops.toList → (∀ σ, Q .normal σ → K σ) → Post Θ (run (kc nt T B) (ops.toList.map (·.dst)) ops.toList σ True) K) : WC Try.prog E (kc nt T B) (.region id ops false) σ Q := WC.region envOk lenvOk hG hd h
theorem rgd (cl : Cl) (hG : GlOk E.g0 E.w0 (kc nt T B).gl) {id : Nat} {ops : Array Oper} {σ : S} {Q : QC} (hd : dstOk nt ops.toList = true) (h5 : ∀ k op, cl k op ≤ 8) (hsl : (σ.sl.all fun p => decide (p.1 < nt)) = true)
    (hB : lexC T ops cl ops.size 0 (Array.replicate ops.size false) = true)
    (h : ∀ {E' : Entry} (Θ : CtxB Try.prog E' (kc nt T B)) (K : S → Prop), Θ.ops = ops.toList → Θ.cl = cl → Θ.n0 = σ.mn → (∀ σ, Q .normal σ → K σ) → PostB Θ (runB (kc nt T B) σ.mn cl (ops.toList.map (·.dst)) 0 ops.toList σ True) K) : WC Try.prog E (kc nt T B) (.region id ops true) σ Q := WC.regionB cl envOk lenvOk hG (by kernel_rfl) hd h5 hsl hB h
theorem rgc (cl : Cl) (hG : GlOk E.g0 E.w0 (kc nt T B).gl) {id : Nat} {ops : Array Oper} {y : Code} {σ : S} {Q : QC} (hd : dstOk nt ops.toList = true) (h5 : ∀ k op, cl k op ≤ 8) (hsl : (σ.sl.all fun p => decide (p.1 < nt)) = true)
    (hB : lexC T ops cl ops.size 0 (Array.replicate ops.size false) = true)
    (h : ∀ {E' : Entry} (Θ : CtxB Try.prog E' (kc nt T B)) (K : S → Prop), Θ.ops = ops.toList → Θ.cl = cl → Θ.n0 = σ.mn → (∀ σ, WC Try.prog E (kc nt T B) y σ Q → K σ) → PostB Θ (runB (kc nt T B) σ.mn cl (ops.toList.map (·.dst)) 0 ops.toList σ True) K) : WC Try.prog E (kc nt T B) (.seq (.region id ops true) y) σ Q :=
  WC.seq (rgd cl hG hd h5 hsl hB (fun Θ K a b c hK => h Θ K a b c (fun σ q => hK σ (nxt_n q))))
theorem rgdT (t : Nat) (cl : Cl) (hG : GlOk E.g0 E.w0 (kc nt T B).gl) {id : Nat} {ops : Array Oper} {σ : S} {Q : QC} (ht : t ≤ σ.mn) (hd : dstOk nt ops.toList = true) (h5 : ∀ j op, cl j op ≤ 8) (hsl : (σ.sl.all fun p => decide (p.1 < nt)) = true)
    (hB : lexC T ops cl ops.size 0 (Array.replicate ops.size false) = true)
    (h : ∀ {E' : Entry} (Θ : CtxB Try.prog E' (kc nt T B)) (K : S → Prop), Θ.ops = ops.toList → Θ.cl = cl → Θ.n0 = t → (∀ σ, Q .normal σ → K σ) → PostB Θ (runB (kc nt T B) t cl (ops.toList.map (·.dst)) 0 ops.toList σ True) K) : WC Try.prog E (kc nt T B) (.region id ops true) σ Q := WC.regionBT t cl envOk lenvOk hG (by kernel_rfl) ht hd h5 hsl hB h
theorem rgcT (t : Nat) (cl : Cl) (hG : GlOk E.g0 E.w0 (kc nt T B).gl) {id : Nat} {ops : Array Oper} {y : Code} {σ : S} {Q : QC} (ht : t ≤ σ.mn) (hd : dstOk nt ops.toList = true) (h5 : ∀ j op, cl j op ≤ 8) (hsl : (σ.sl.all fun p => decide (p.1 < nt)) = true)
    (hB : lexC T ops cl ops.size 0 (Array.replicate ops.size false) = true)
    (h : ∀ {E' : Entry} (Θ : CtxB Try.prog E' (kc nt T B)) (K : S → Prop), Θ.ops = ops.toList → Θ.cl = cl → Θ.n0 = t → (∀ σ, WC Try.prog E (kc nt T B) y σ Q → K σ) → PostB Θ (runB (kc nt T B) t cl (ops.toList.map (·.dst)) 0 ops.toList σ True) K) : WC Try.prog E (kc nt T B) (.seq (.region id ops true) y) σ Q :=
  WC.seq (rgdT t cl hG ht hd h5 hsl hB (fun Θ K a b c hK => h Θ K a b c (fun σ q => hK σ (nxt_n q))))
end Go.VL
