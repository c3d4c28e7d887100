/- Part TEnv of the proof: made for this claim. -/
import Derived.Test.YtnejeeeliioopaaDoorShaK
import Derived.Test.YtnejeeeliioopaaDoorProg
import Derived.KernelRfl
/-! The seat's types. -/
set_option linter.unusedVariables false
open Go.RowKit
namespace Go.VL
open Go.Proofs
def envH : Env := [(3, ⟨.int .i64, 1, 8, false, true, [.flat (.int .i64 0)]⟩),
  (4, ⟨.bool, 1, 1, false, true, [.flat (.bool false)]⟩),
  (5, ⟨.int .u8, 1, 1, false, true, [.flat (.int .u8 0)]⟩),
  (9, ⟨.str, 1, 16, false, true, [.flat (.string ByteArray.empty)]⟩),
  (23, ⟨.arr 32 5, 32, 32, true, true, bv z32.1⟩),
  (24, ⟨.arr 32 5, 32, 32, true, true, bv z32.1⟩),
  (27, ⟨.sl 5, 1, 24, false, true, [.nil]⟩),
  (30, ⟨.arr 16 5, 16, 16, true, true, bv z16.1⟩),
  (31, ⟨.arr 16 5, 16, 16, true, true, bv z16.1⟩),
  (34, ⟨.sl 9, 1, 24, false, true, [.nil]⟩),
  (45, ⟨.st [(0, 3, true), (1, 3, true)], 2, 16, true, true, Pl.c pl0⟩),
  (48, ⟨.arr 35 3, 35, 280, true, true, iv (iz 35)⟩),
  (50, ⟨.sl 3, 1, 24, false, true, [.nil]⟩),
  (56, ⟨.sl 59, 1, 24, false, true, [.nil]⟩),
  (59, ⟨.int .u32, 1, 4, false, true, [.flat (.int .u32 0)]⟩),
  (60, ⟨.arr 8 59, 8, 32, true, true, uv (wz 8)⟩),
  (61, ⟨.arr 8 59, 8, 32, true, true, uv (wz 8)⟩),
  (62, ⟨.int .u64, 1, 8, false, true, [.flat (.int .u64 0)]⟩),
  (64, ⟨.int .u64, 1, 8, false, true, [.flat (.int .u64 0)]⟩),
  (70, ⟨.sl 62, 1, 24, false, true, [.nil]⟩),
  (74, ⟨.arr 64 59, 64, 256, true, true, uv (wz 64)⟩)]
theorem envOk : EnvOk Tryd.prog envH := EnvOk.of (by kernel_rfl)
@[go_sem] theorem e3 : Env.get envH 3 = some ⟨.int .i64, 1, 8, false, true, [.flat (.int .i64 0)]⟩ := rfl
@[go_sem] theorem e4 : Env.get envH 4 = some ⟨.bool, 1, 1, false, true, [.flat (.bool false)]⟩ := rfl
@[go_sem] theorem e5 : Env.get envH 5 = some ⟨.int .u8, 1, 1, false, true, [.flat (.int .u8 0)]⟩ := rfl
@[go_sem] theorem e9 : Env.get envH 9 = some ⟨.str, 1, 16, false, true, [.flat (.string ByteArray.empty)]⟩ := rfl
@[go_sem] theorem e23 : Env.get envH 23 = some ⟨.arr 32 5, 32, 32, true, true, bv z32.1⟩ := rfl
@[go_sem] theorem e24 : Env.get envH 24 = some ⟨.arr 32 5, 32, 32, true, true, bv z32.1⟩ := rfl
@[go_sem] theorem e27 : Env.get envH 27 = some ⟨.sl 5, 1, 24, false, true, [.nil]⟩ := rfl
@[go_sem] theorem e30 : Env.get envH 30 = some ⟨.arr 16 5, 16, 16, true, true, bv z16.1⟩ := rfl
@[go_sem] theorem e31 : Env.get envH 31 = some ⟨.arr 16 5, 16, 16, true, true, bv z16.1⟩ := rfl
@[go_sem] theorem e34 : Env.get envH 34 = some ⟨.sl 9, 1, 24, false, true, [.nil]⟩ := rfl
@[go_sem] theorem e45 : Env.get envH 45 = some ⟨.st [(0, 3, true), (1, 3, true)], 2, 16, true, true, Pl.c pl0⟩ := rfl
@[go_sem] theorem e48 : Env.get envH 48 = some ⟨.arr 35 3, 35, 280, true, true, iv (iz 35)⟩ := rfl
@[go_sem] theorem e50 : Env.get envH 50 = some ⟨.sl 3, 1, 24, false, true, [.nil]⟩ := rfl
@[go_sem] theorem e56 : Env.get envH 56 = some ⟨.sl 59, 1, 24, false, true, [.nil]⟩ := rfl
@[go_sem] theorem e59 : Env.get envH 59 = some ⟨.int .u32, 1, 4, false, true, [.flat (.int .u32 0)]⟩ := rfl
@[go_sem] theorem e60 : Env.get envH 60 = some ⟨.arr 8 59, 8, 32, true, true, uv (wz 8)⟩ := rfl
@[go_sem] theorem e61 : Env.get envH 61 = some ⟨.arr 8 59, 8, 32, true, true, uv (wz 8)⟩ := rfl
@[go_sem] theorem e62 : Env.get envH 62 = some ⟨.int .u64, 1, 8, false, true, [.flat (.int .u64 0)]⟩ := rfl
@[go_sem] theorem e64 : Env.get envH 64 = some ⟨.int .u64, 1, 8, false, true, [.flat (.int .u64 0)]⟩ := rfl
@[go_sem] theorem e70 : Env.get envH 70 = some ⟨.sl 62, 1, 24, false, true, [.nil]⟩ := rfl
@[go_sem] theorem e74 : Env.get envH 74 = some ⟨.arr 64 59, 64, 256, true, true, uv (wz 64)⟩ := rfl
def envL : LEnv := [(23, ckB 32),
  (24, ckB 32),
  (30, ckB 16),
  (31, ckB 16)]
theorem lenvOk : LEnvOk Tryd.prog envL := by unfold LEnvOk; kernel_rfl
@[go_sem] theorem l23 : LEnv.get envL 23 = some (ckB 32) := rfl
@[go_sem] theorem l24 : LEnv.get envL 24 = some (ckB 32) := rfl
@[go_sem] theorem l30 : LEnv.get envL 30 = some (ckB 16) := rfl
@[go_sem] theorem l31 : LEnv.get envL 31 = some (ckB 16) := rfl
def GL : Nat → Option (List V) := fun n => if n = 0 then some (uv startN) else if n = 1 then some (uv roundN) else none
@[go_sem] theorem GL0 : GL 0 = some (uv startN) := rfl
@[go_sem] theorem GL1 : GL 1 = some (uv roundN) := rfl
def kc (nt : Nat) (T B : List Nat) : Cfg := ⟨envH, envL, GL, nt, T, B⟩
variable {E : Entry} {nt : Nat} {T B : List Nat}
@[go_sem] theorem kc_H : (kc nt T B).H = envH := rfl
@[go_sem] theorem kc_L : (kc nt T B).L = envL := rfl
@[go_sem] theorem kc_gl : (kc nt T B).gl = GL := rfl
@[go_sem] theorem kc_nt : (kc nt T B).nt = nt := rfl
@[go_sem] theorem kc_T : (kc nt T B).T = T := rfl
@[go_sem] theorem kc_B : (kc nt T B).B = B := rfl
abbrev Rt (f : FuncId) (args : List V) (X : V) : Prop := ∀ M mn, Sp Tryd.prog GL f args M mn (fun r m k => r = X ∧ m = M ∧ k = mn)
theorem rga (hG : GlOk E.g0 E.w0 (kc nt T B).gl) {id : Nat} {ops : Array Oper} {y : Code} {σ : S} {Q : QC} (hd : dstOk nt ops.toList = true)
    (h : ∀ (Θ : Ctx Tryd.prog E (kc nt T B)) (K : S → Prop), Θ.ops = ops.toList → (∀ σ, WC Tryd.prog E (kc nt T B) y σ Q → K σ) → Post Θ (run (kc nt T B) (ops.toList.map (·.dst)) ops.toList σ True) K) : WC Tryd.prog E (kc nt T B) (.seq (.region id ops false) y) σ Q := WC.regionSeq envOk lenvOk hG hd h
theorem rgb (hG : GlOk E.g0 E.w0 (kc nt T B).gl) {id : Nat} {ops : Array Oper} {σ : S} {Q : QC} (hd : dstOk nt ops.toList = true)
    (h : ∀ (Θ : Ctx Tryd.prog E (kc nt T B)) (K : S → Prop), Θ.ops = ops.toList → (∀ σ, Q .normal σ → K σ) → Post Θ (run (kc nt T B) (ops.toList.map (·.dst)) ops.toList σ True) K) : WC Tryd.prog E (kc nt T B) (.region id ops false) σ Q := WC.region envOk lenvOk hG hd h
theorem rgd (cl : Cl) (hG : GlOk E.g0 E.w0 (kc nt T B).gl) {id : Nat} {ops : Array Oper} {σ : S} {Q : QC} (hd : dstOk nt ops.toList = true) (h5 : ∀ k op, cl k op ≤ 6) (hsl : (σ.sl.all fun p => decide (p.1 < nt)) = true)
    (hB : lexC T ops cl ops.size 0 (Array.replicate ops.size false) = true)
    (h : ∀ {E' : Entry} (Θ : CtxB Tryd.prog E' (kc nt T B)) (K : S → Prop), Θ.ops = ops.toList → Θ.cl = cl → Θ.n0 = σ.mn → (∀ σ, Q .normal σ → K σ) → PostB Θ (runB (kc nt T B) σ.mn cl (ops.toList.map (·.dst)) 0 ops.toList σ True) K) : WC Tryd.prog E (kc nt T B) (.region id ops true) σ Q := WC.regionB cl envOk lenvOk hG (by kernel_rfl) hd h5 hsl hB h
theorem rgc (cl : Cl) (hG : GlOk E.g0 E.w0 (kc nt T B).gl) {id : Nat} {ops : Array Oper} {y : Code} {σ : S} {Q : QC} (hd : dstOk nt ops.toList = true) (h5 : ∀ k op, cl k op ≤ 6) (hsl : (σ.sl.all fun p => decide (p.1 < nt)) = true)
    (hB : lexC T ops cl ops.size 0 (Array.replicate ops.size false) = true)
    (h : ∀ {E' : Entry} (Θ : CtxB Tryd.prog E' (kc nt T B)) (K : S → Prop), Θ.ops = ops.toList → Θ.cl = cl → Θ.n0 = σ.mn → (∀ σ, WC Tryd.prog E (kc nt T B) y σ Q → K σ) → PostB Θ (runB (kc nt T B) σ.mn cl (ops.toList.map (·.dst)) 0 ops.toList σ True) K) : WC Tryd.prog E (kc nt T B) (.seq (.region id ops true) y) σ Q :=
  WC.seq (rgd cl hG hd h5 hsl hB (fun Θ K a b c hK => h Θ K a b c (fun σ q => hK σ (nxt_n q))))
theorem rgdR (k : Nat) (cl : Cl) (hG : GlOk E.g0 E.w0 (kc nt T B).gl) {id : Nat} {ops : Array Oper} {σ : S} {Q : QC} (hd : dstOk nt ops.toList = true) (h5 : ∀ j op, cl j op ≤ 6 + k) (hsl : (σ.sl.all fun p => decide (p.1 < nt)) = true)
    (hB : lexC T ops cl ops.size 0 (Array.replicate ops.size false) = true)
    (h : ∀ {E' : Entry} (Θ : CtxB Tryd.prog E' (kc nt T B)) (K : S → Prop), Θ.ops = ops.toList → Θ.cl = cl → Θ.n0 = σ.mn → (∀ σ, Q .normal σ → K σ) → PostB Θ (runB (kc nt T B) σ.mn cl (ops.toList.map (·.dst)) 0 ops.toList { σ with mn := σ.mn + k } True) K) : WC Tryd.prog E (kc nt T B) (.region id ops true) σ Q := WC.regionBR k cl envOk lenvOk hG (by kernel_rfl) hd h5 hsl hB h
theorem rgcR (k : Nat) (cl : Cl) (hG : GlOk E.g0 E.w0 (kc nt T B).gl) {id : Nat} {ops : Array Oper} {y : Code} {σ : S} {Q : QC} (hd : dstOk nt ops.toList = true) (h5 : ∀ j op, cl j op ≤ 6 + k) (hsl : (σ.sl.all fun p => decide (p.1 < nt)) = true)
    (hB : lexC T ops cl ops.size 0 (Array.replicate ops.size false) = true)
    (h : ∀ {E' : Entry} (Θ : CtxB Tryd.prog E' (kc nt T B)) (K : S → Prop), Θ.ops = ops.toList → Θ.cl = cl → Θ.n0 = σ.mn → (∀ σ, WC Tryd.prog E (kc nt T B) y σ Q → K σ) → PostB Θ (runB (kc nt T B) σ.mn cl (ops.toList.map (·.dst)) 0 ops.toList { σ with mn := σ.mn + k } True) K) : WC Tryd.prog E (kc nt T B) (.seq (.region id ops true) y) σ Q :=
  WC.seq (rgdR k cl hG hd h5 hsl hB (fun Θ K a b c hK => h Θ K a b c (fun σ q => hK σ (nxt_n q))))
theorem rgdT (t : Nat) (cl : Cl) (hG : GlOk E.g0 E.w0 (kc nt T B).gl) {id : Nat} {ops : Array Oper} {σ : S} {Q : QC} (ht : t ≤ σ.mn) (hd : dstOk nt ops.toList = true) (h5 : ∀ j op, cl j op ≤ 6) (hsl : (σ.sl.all fun p => decide (p.1 < nt)) = true)
    (hB : lexC T ops cl ops.size 0 (Array.replicate ops.size false) = true)
    (h : ∀ {E' : Entry} (Θ : CtxB Tryd.prog E' (kc nt T B)) (K : S → Prop), Θ.ops = ops.toList → Θ.cl = cl → Θ.n0 = t → (∀ σ, Q .normal σ → K σ) → PostB Θ (runB (kc nt T B) t cl (ops.toList.map (·.dst)) 0 ops.toList σ True) K) : WC Tryd.prog E (kc nt T B) (.region id ops true) σ Q := WC.regionBT t cl envOk lenvOk hG (by kernel_rfl) ht hd h5 hsl hB h
theorem rgcT (t : Nat) (cl : Cl) (hG : GlOk E.g0 E.w0 (kc nt T B).gl) {id : Nat} {ops : Array Oper} {y : Code} {σ : S} {Q : QC} (ht : t ≤ σ.mn) (hd : dstOk nt ops.toList = true) (h5 : ∀ j op, cl j op ≤ 6) (hsl : (σ.sl.all fun p => decide (p.1 < nt)) = true)
    (hB : lexC T ops cl ops.size 0 (Array.replicate ops.size false) = true)
    (h : ∀ {E' : Entry} (Θ : CtxB Tryd.prog E' (kc nt T B)) (K : S → Prop), Θ.ops = ops.toList → Θ.cl = cl → Θ.n0 = t → (∀ σ, WC Tryd.prog E (kc nt T B) y σ Q → K σ) → PostB Θ (runB (kc nt T B) t cl (ops.toList.map (·.dst)) 0 ops.toList σ True) K) : WC Tryd.prog E (kc nt T B) (.seq (.region id ops true) y) σ Q :=
  WC.seq (rgdT t cl hG ht hd h5 hsl hB (fun Θ K a b c hK => h Θ K a b c (fun σ q => hK σ (nxt_n q))))
end Go.VL
