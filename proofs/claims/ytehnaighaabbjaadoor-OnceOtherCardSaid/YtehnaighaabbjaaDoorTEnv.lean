/- Part TEnv of the proof: made for this claim. -/
import Derived.Test.YtehnaighaabbjaaDoorShaSpec
import Derived.Test.YtehnaighaabbjaaDoorPackSpec
import Derived.Test.YtehnaighaabbjaaDoorStepSpec
import Derived.Test.YtehnaighaabbjaaDoorTreeSpec
import Derived.Test.YtehnaighaabbjaaDoorProg
import Derived.KernelRfl
/-! The seat's types. -/
set_option linter.unusedVariables false
open Go.RowKit
namespace Go.VL
open Go.Proofs
def envH : Env := [(3, ⟨.int .i64, 1, 8, false, true, [.flat (.int .i64 0)]⟩),
  (4, ⟨.bool, 1, 1, false, true, [.flat (.bool false)]⟩),
  (5, ⟨.int .u8, 1, 1, false, true, [.flat (.int .u8 0)]⟩),
  (9, ⟨.str, 1, 16, false, true, [.flat (.string ByteArray.empty)]⟩),
  (22, ⟨.sl 27, 1, 24, false, true, [.nil]⟩),
  (24, ⟨.sl 28, 1, 24, false, true, [.nil]⟩),
  (27, ⟨.arr 16 5, 16, 16, true, true, bv z16.1⟩),
  (28, ⟨.arr 16 5, 16, 16, true, true, bv z16.1⟩),
  (29, ⟨.int .i64, 1, 8, false, true, [.flat (.int .i64 0)]⟩),
  (32, ⟨.int .u64, 1, 8, false, true, [.flat (.int .u64 0)]⟩),
  (38, ⟨.arr 35 3, 35, 280, true, true, iv (iz 35)⟩),
  (41, ⟨.st [(0, 3, true), (1, 3, true)], 2, 16, true, true, Pl.c pl0⟩),
  (62, ⟨.arr 32 5, 32, 32, true, true, bv z32.1⟩),
  (64, ⟨.sl 5, 1, 24, false, true, [.nil]⟩),
  (68, ⟨.sl 9, 1, 24, false, true, [.nil]⟩),
  (71, ⟨.sl 3, 1, 24, false, true, [.nil]⟩),
  (77, ⟨.int .u32, 1, 4, false, true, [.flat (.int .u32 0)]⟩),
  (78, ⟨.arr 8 77, 8, 32, true, true, uv (wz 8)⟩),
  (79, ⟨.arr 8 77, 8, 32, true, true, uv (wz 8)⟩),
  (80, ⟨.int .u64, 1, 8, false, true, [.flat (.int .u64 0)]⟩),
  (82, ⟨.sl 77, 1, 24, false, true, [.nil]⟩),
  (88, ⟨.arr 64 77, 64, 256, true, true, uv (wz 64)⟩)]
theorem envOk : EnvOk Tryd.prog envH := EnvOk.of (by kernel_rfl)
@[go_sem] theorem e3 : Env.get envH 3 = some ⟨.int .i64, 1, 8, false, true, [.flat (.int .i64 0)]⟩ := rfl
@[go_sem] theorem e4 : Env.get envH 4 = some ⟨.bool, 1, 1, false, true, [.flat (.bool false)]⟩ := rfl
@[go_sem] theorem e5 : Env.get envH 5 = some ⟨.int .u8, 1, 1, false, true, [.flat (.int .u8 0)]⟩ := rfl
@[go_sem] theorem e9 : Env.get envH 9 = some ⟨.str, 1, 16, false, true, [.flat (.string ByteArray.empty)]⟩ := rfl
@[go_sem] theorem e22 : Env.get envH 22 = some ⟨.sl 27, 1, 24, false, true, [.nil]⟩ := rfl
@[go_sem] theorem e24 : Env.get envH 24 = some ⟨.sl 28, 1, 24, false, true, [.nil]⟩ := rfl
@[go_sem] theorem e27 : Env.get envH 27 = some ⟨.arr 16 5, 16, 16, true, true, bv z16.1⟩ := rfl
@[go_sem] theorem e28 : Env.get envH 28 = some ⟨.arr 16 5, 16, 16, true, true, bv z16.1⟩ := rfl
@[go_sem] theorem e29 : Env.get envH 29 = some ⟨.int .i64, 1, 8, false, true, [.flat (.int .i64 0)]⟩ := rfl
@[go_sem] theorem e32 : Env.get envH 32 = some ⟨.int .u64, 1, 8, false, true, [.flat (.int .u64 0)]⟩ := rfl
@[go_sem] theorem e38 : Env.get envH 38 = some ⟨.arr 35 3, 35, 280, true, true, iv (iz 35)⟩ := rfl
@[go_sem] theorem e41 : Env.get envH 41 = some ⟨.st [(0, 3, true), (1, 3, true)], 2, 16, true, true, Pl.c pl0⟩ := rfl
@[go_sem] theorem e62 : Env.get envH 62 = some ⟨.arr 32 5, 32, 32, true, true, bv z32.1⟩ := rfl
@[go_sem] theorem e64 : Env.get envH 64 = some ⟨.sl 5, 1, 24, false, true, [.nil]⟩ := rfl
@[go_sem] theorem e68 : Env.get envH 68 = some ⟨.sl 9, 1, 24, false, true, [.nil]⟩ := rfl
@[go_sem] theorem e71 : Env.get envH 71 = some ⟨.sl 3, 1, 24, false, true, [.nil]⟩ := rfl
@[go_sem] theorem e77 : Env.get envH 77 = some ⟨.int .u32, 1, 4, false, true, [.flat (.int .u32 0)]⟩ := rfl
@[go_sem] theorem e78 : Env.get envH 78 = some ⟨.arr 8 77, 8, 32, true, true, uv (wz 8)⟩ := rfl
@[go_sem] theorem e79 : Env.get envH 79 = some ⟨.arr 8 77, 8, 32, true, true, uv (wz 8)⟩ := rfl
@[go_sem] theorem e80 : Env.get envH 80 = some ⟨.int .u64, 1, 8, false, true, [.flat (.int .u64 0)]⟩ := rfl
@[go_sem] theorem e82 : Env.get envH 82 = some ⟨.sl 77, 1, 24, false, true, [.nil]⟩ := rfl
@[go_sem] theorem e88 : Env.get envH 88 = some ⟨.arr 64 77, 64, 256, true, true, uv (wz 64)⟩ := rfl
def envL : LEnv := [(28, ckB 16)]
theorem lenvOk : LEnvOk Tryd.prog envL := by unfold LEnvOk; kernel_rfl
@[go_sem] theorem l28 : LEnv.get envL 28 = some (ckB 16) := rfl
def GL : Nat → Option (List V) := fun n => if n = 0 then some (uv startN) else if n = 1 then some (uv roundN) else none
@[go_sem] theorem GL0 : GL 0 = some (uv startN) := rfl
@[go_sem] theorem GL1 : GL 1 = some (uv roundN) := rfl
def kc (nt : Nat) (T B : List Nat) : Cfg := ⟨envH, envL, GL, nt, T, B⟩
variable {E : Entry} {nt : Nat} {T B : List Nat}
@[go_sem] theorem kc_H : (kc nt T B).H = envH := rfl
@[go_sem] theorem kc_L : (kc nt T B).L = envL := rfl
@[go_sem] theorem kc_gl : (kc nt T B).gl = GL := rfl
@[go_sem] theorem kc_nt : (kc nt T B).nt = nt := rfl
@[go_sem] theorem kc_T : (kc nt T B).T = T := rfl
@[go_sem] theorem kc_B : (kc nt T B).B = B := rfl
abbrev Rt (f : FuncId) (args : List V) (X : V) : Prop := ∀ M mn, Sp Tryd.prog GL f args M mn (fun r m k => r = X ∧ m = M ∧ k = mn)
theorem rga (hG : GlOk E.g0 E.w0 (kc nt T B).gl) {id : Nat} {ops : Array Oper} {y : Code} {σ : S} {Q : QC} (hd : dstOk nt ops.toList = true)
    (h : ∀ (Θ : Ctx Tryd.prog E (kc nt T B)) (K : S → Prop), Θ.ops = ops.toList → (∀ σ, WC Tryd.prog E (kc nt T B) y σ Q → K σ) → Post Θ (run (kc nt T B) (ops.toList.map (·.dst)) ops.toList σ True) K) : WC Tryd.prog E (kc nt T B) (.seq (.region id ops false) y) σ Q := WC.regionSeq envOk lenvOk hG hd h
theorem rgb (hG : GlOk E.g0 E.w0 (kc nt T B).gl) {id : Nat} {ops : Array Oper} {σ : S} {Q : QC} (hd : dstOk nt ops.toList = true)
    (h : ∀ (Θ : Ctx Tryd.prog E (kc nt T B)) (K : S → Prop), Θ.ops = ops.toList → (∀ σ, Q .normal σ → K σ) → Post Θ (run (kc nt T B) (ops.toList.map (·.dst)) ops.toList σ True) K) : WC Tryd.prog E (kc nt T B) (.region id ops false) σ Q := WC.region envOk lenvOk hG hd h
theorem rgd (cl : Cl) (hG : GlOk E.g0 E.w0 (kc nt T B).gl) {id : Nat} {ops : Array Oper} {σ : S} {Q : QC} (hd : dstOk nt ops.toList = true) (h5 : ∀ k op, cl k op ≤ 6) (hsl : (σ.sl.all fun p => decide (p.1 < nt)) = true)
    (hB : lexC T ops cl ops.size 0 (Array.replicate ops.size false) = true)
    (h : ∀ {E' : Entry} (Θ : CtxB Tryd.prog E' (kc nt T B)) (K : S → Prop), Θ.ops = ops.toList → Θ.cl = cl → Θ.n0 = σ.mn → (∀ σ, Q .normal σ → K σ) → PostB Θ (runB (kc nt T B) σ.mn cl (ops.toList.map (·.dst)) 0 ops.toList σ True) K) : WC Tryd.prog E (kc nt T B) (.region id ops true) σ Q := WC.regionB cl envOk lenvOk hG (by kernel_rfl) hd h5 hsl hB h
theorem rgc (cl : Cl) (hG : GlOk E.g0 E.w0 (kc nt T B).gl) {id : Nat} {ops : Array Oper} {y : Code} {σ : S} {Q : QC} (hd : dstOk nt ops.toList = true) (h5 : ∀ k op, cl k op ≤ 6) (hsl : (σ.sl.all fun p => decide (p.1 < nt)) = true)
    (hB : lexC T ops cl ops.size 0 (Array.replicate ops.size false) = true)
    (h : ∀ {E' : Entry} (Θ : CtxB Tryd.prog E' (kc nt T B)) (K : S → Prop), Θ.ops = ops.toList → Θ.cl = cl → Θ.n0 = σ.mn → (∀ σ, WC Tryd.prog E (kc nt T B) y σ Q → K σ) → PostB Θ (runB (kc nt T B) σ.mn cl (ops.toList.map (·.dst)) 0 ops.toList σ True) K) : WC Tryd.prog E (kc nt T B) (.seq (.region id ops true) y) σ Q :=
  WC.seq (rgd cl hG hd h5 hsl hB (fun Θ K a b c hK => h Θ K a b c (fun σ q => hK σ (nxt_n q))))
theorem rgdR (k : Nat) (cl : Cl) (hG : GlOk E.g0 E.w0 (kc nt T B).gl) {id : Nat} {ops : Array Oper} {σ : S} {Q : QC} (hd : dstOk nt ops.toList = true) (h5 : ∀ j op, cl j op ≤ 6 + k) (hsl : (σ.sl.all fun p => decide (p.1 < nt)) = true)
    (hB : lexC T ops cl ops.size 0 (Array.replicate ops.size false) = true)
    (h : ∀ {E' : Entry} (Θ : CtxB Tryd.prog E' (kc nt T B)) (K : S → Prop), Θ.ops = ops.toList → Θ.cl = cl → Θ.n0 = σ.mn → (∀ σ, Q .normal σ → K σ) → PostB Θ (runB (kc nt T B) σ.mn cl (ops.toList.map (·.dst)) 0 ops.toList { σ with mn := σ.mn + k } True) K) : WC Tryd.prog E (kc nt T B) (.region id ops true) σ Q := WC.regionBR k cl envOk lenvOk hG (by kernel_rfl) hd h5 hsl hB h
theorem rgcR (k : Nat) (cl : Cl) (hG : GlOk E.g0 E.w0 (kc nt T B).gl) {id : Nat} {ops : Array Oper} {y : Code} {σ : S} {Q : QC} (hd : dstOk nt ops.toList = true) (h5 : ∀ j op, cl j op ≤ 6 + k) (hsl : (σ.sl.all fun p => decide (p.1 < nt)) = true)
    (hB : lexC T ops cl ops.size 0 (Array.replicate ops.size false) = true)
    (h : ∀ {E' : Entry} (Θ : CtxB Tryd.prog E' (kc nt T B)) (K : S → Prop), Θ.ops = ops.toList → Θ.cl = cl → Θ.n0 = σ.mn → (∀ σ, WC Tryd.prog E (kc nt T B) y σ Q → K σ) → PostB Θ (runB (kc nt T B) σ.mn cl (ops.toList.map (·.dst)) 0 ops.toList { σ with mn := σ.mn + k } True) K) : WC Tryd.prog E (kc nt T B) (.seq (.region id ops true) y) σ Q :=
  WC.seq (rgdR k cl hG hd h5 hsl hB (fun Θ K a b c hK => h Θ K a b c (fun σ q => hK σ (nxt_n q))))
theorem rgdT (t : Nat) (cl : Cl) (hG : GlOk E.g0 E.w0 (kc nt T B).gl) {id : Nat} {ops : Array Oper} {σ : S} {Q : QC} (ht : t ≤ σ.mn) (hd : dstOk nt ops.toList = true) (h5 : ∀ j op, cl j op ≤ 6) (hsl : (σ.sl.all fun p => decide (p.1 < nt)) = true)
    (hB : lexC T ops cl ops.size 0 (Array.replicate ops.size false) = true)
    (h : ∀ {E' : Entry} (Θ : CtxB Tryd.prog E' (kc nt T B)) (K : S → Prop), Θ.ops = ops.toList → Θ.cl = cl → Θ.n0 = t → (∀ σ, Q .normal σ → K σ) → PostB Θ (runB (kc nt T B) t cl (ops.toList.map (·.dst)) 0 ops.toList σ True) K) : WC Tryd.prog E (kc nt T B) (.region id ops true) σ Q := WC.regionBT t cl envOk lenvOk hG (by kernel_rfl) ht hd h5 hsl hB h
theorem rgcT (t : Nat) (cl : Cl) (hG : GlOk E.g0 E.w0 (kc nt T B).gl) {id : Nat} {ops : Array Oper} {y : Code} {σ : S} {Q : QC} (ht : t ≤ σ.mn) (hd : dstOk nt ops.toList = true) (h5 : ∀ j op, cl j op ≤ 6) (hsl : (σ.sl.all fun p => decide (p.1 < nt)) = true)
    (hB : lexC T ops cl ops.size 0 (Array.replicate ops.size false) = true)
    (h : ∀ {E' : Entry} (Θ : CtxB Tryd.prog E' (kc nt T B)) (K : S → Prop), Θ.ops = ops.toList → Θ.cl = cl → Θ.n0 = t → (∀ σ, WC Tryd.prog E (kc nt T B) y σ Q → K σ) → PostB Θ (runB (kc nt T B) t cl (ops.toList.map (·.dst)) 0 ops.toList σ True) K) : WC Tryd.prog E (kc nt T B) (.seq (.region id ops true) y) σ Q :=
  WC.seq (rgdT t cl hG ht hd h5 hsl hB (fun Θ K a b c hK => h Θ K a b c (fun σ q => hK σ (nxt_n q))))
end Go.VL
