/- Part SA of the proof: made for this claim. -/
import Derived.Test.YtbceglggojnnaaaDoorFB
import Derived.Test.YtbceglggojnnaaaDoorProg
import Derived.KernelRfl
set_option linter.unusedVariables false
set_option maxRecDepth 100000
open Go.RowKit
namespace Go.VL
open Go.Proofs
def envH : Env := [(3, ⟨.int .i64, 1, 8, false, true, [.flat (.int .i64 0)]⟩),
  (4, ⟨.bool, 1, 1, false, true, [.flat (.bool false)]⟩),
  (5, ⟨.int .u8, 1, 1, false, true, [.flat (.int .u8 0)]⟩),
  (9, ⟨.str, 1, 16, false, true, [.flat (.string ByteArray.empty)]⟩),
  (23, ⟨.ptr 102, 1, 8, false, true, [.flat (.pointer none)]⟩),
  (24, ⟨.int .i64, 1, 8, false, true, [.flat (.int .i64 0)]⟩),
  (30, ⟨.arr 16 5, 16, 16, true, true, bv z16.1⟩),
  (31, ⟨.arr 16 5, 16, 16, true, true, bv z16.1⟩),
  (33, ⟨.st [(0, 31, true), (16, 3, true)], 17, 24, true, true, Nd.c nd0⟩),
  (36, ⟨.sl 31, 1, 24, false, true, [.nil]⟩),
  (44, ⟨.sl 5, 1, 24, false, true, [.nil]⟩),
  (45, ⟨.int .u64, 1, 8, false, true, [.flat (.int .u64 0)]⟩),
  (48, ⟨.arr 32 5, 32, 32, true, true, bv z32.1⟩),
  (49, ⟨.sl 56, 1, 24, false, true, [.nil]⟩),
  (51, ⟨.oth, 1, 8, false, true, [.flat .nilFunc]⟩),
  (52, ⟨.arr 32 5, 32, 32, true, true, bv z32.1⟩),
  (54, ⟨.st [(0, 3, true), (1, 9, true), (2, 9, true), (3, 52, true)], 35, 72, true, true, Dr.c dr0⟩),
  (56, ⟨.st [(0, 3, true), (1, 54, true), (36, 3, true), (37, 3, true), (38, 52, true), (70, 3, true), (71, 9, true), (72, 9, true)], 73, 168, true, true, Ent.c ent0⟩),
  (57, ⟨.sl 52, 1, 24, false, true, [.nil]⟩),
  (64, ⟨.st [(0, 3, true), (1, 3, true), (2, 52, true), (34, 9, true)], 35, 64, true, true, Au.c au0⟩),
  (65, ⟨.sl 33, 1, 24, false, true, [.nil]⟩),
  (68, ⟨.arr 2 3, 2, 16, true, true, List.replicate 2 (.flat (.int .i64 0) : V)⟩),
  (69, ⟨.arr 4 3, 4, 32, true, true, List.replicate 4 (.flat (.int .i64 0) : V)⟩),
  (72, ⟨.sl 81, 1, 24, false, true, [.nil]⟩),
  (73, ⟨.ptr 128, 1, 8, false, true, [.flat (.pointer none)]⟩),
  (74, ⟨.ptr 79, 1, 8, false, true, [.flat (.pointer none)]⟩),
  (77, ⟨.arr 5 33, 85, 120, true, true, rep 5 (Nd.c nd0)⟩),
  (79, ⟨.st [(0, 3, true), (1, 9, true), (2, 36, true), (3, 49, true)], 4, 72, true, true, [.flat (.int .i64 0)] ++ [.flat (.string ByteArray.empty)] ++ [.nil] ++ [.nil]⟩),
  (81, ⟨.st [(0, 4, true), (1, 49, true), (2, 3, true), (3, 3, true)], 4, 48, true, true, [.flat (.bool false)] ++ [.nil] ++ [.flat (.int .i64 0)] ++ [.flat (.int .i64 0)]⟩),
  (102, ⟨.st [(0, 9, true), (1, 3, true), (2, 36, true), (3, 31, true)], 19, 64, true, true, Ky.c ky0⟩),
  (114, ⟨.sl 9, 1, 24, false, true, [.nil]⟩),
  (128, ⟨.st [(0, 3, true), (1, 23, true), (2, 49, true), (3, 57, true)], 4, 64, true, true, [.flat (.int .i64 0)] ++ [.flat (.pointer none)] ++ [.nil] ++ [.nil]⟩),
  (134, ⟨.ptr 164, 1, 8, false, true, [.flat (.pointer none)]⟩),
  (142, ⟨.st [(0, 3, true), (1, 3, true)], 2, 16, true, true, Pl.c pl0⟩),
  (147, ⟨.arr 35 3, 35, 280, true, true, iv (iz 35)⟩),
  (152, ⟨.sl 3, 1, 24, false, true, [.nil]⟩),
  (154, ⟨.sl 158, 1, 24, false, true, [.nil]⟩),
  (157, ⟨.int .u64, 1, 8, false, true, [.flat (.int .u64 0)]⟩),
  (158, ⟨.int .u32, 1, 4, false, true, [.flat (.int .u32 0)]⟩),
  (164, ⟨.st [(0, 9, true), (1, 4, true)], 2, 24, true, true, [.flat (.string ByteArray.empty)] ++ [.flat (.bool false)]⟩),
  (172, ⟨.arr 8 158, 8, 32, true, true, uv (wz 8)⟩),
  (173, ⟨.arr 8 158, 8, 32, true, true, uv (wz 8)⟩),
  (178, ⟨.arr 64 158, 64, 256, true, true, uv (wz 64)⟩)]
theorem envOk : EnvOk Tryd.prog envH := EnvOk.of (by kernel_rfl)
@[go_sem] theorem e3 : Env.get envH 3 = some ⟨.int .i64, 1, 8, false, true, [.flat (.int .i64 0)]⟩ := rfl
@[go_sem] theorem e4 : Env.get envH 4 = some ⟨.bool, 1, 1, false, true, [.flat (.bool false)]⟩ := rfl
@[go_sem] theorem e5 : Env.get envH 5 = some ⟨.int .u8, 1, 1, false, true, [.flat (.int .u8 0)]⟩ := rfl
@[go_sem] theorem e9 : Env.get envH 9 = some ⟨.str, 1, 16, false, true, [.flat (.string ByteArray.empty)]⟩ := rfl
@[go_sem] theorem e23 : Env.get envH 23 = some ⟨.ptr 102, 1, 8, false, true, [.flat (.pointer none)]⟩ := rfl
@[go_sem] theorem e24 : Env.get envH 24 = some ⟨.int .i64, 1, 8, false, true, [.flat (.int .i64 0)]⟩ := rfl
@[go_sem] theorem e30 : Env.get envH 30 = some ⟨.arr 16 5, 16, 16, true, true, bv z16.1⟩ := rfl
@[go_sem] theorem e31 : Env.get envH 31 = some ⟨.arr 16 5, 16, 16, true, true, bv z16.1⟩ := rfl
@[go_sem] theorem e33 : Env.get envH 33 = some ⟨.st [(0, 31, true), (16, 3, true)], 17, 24, true, true, Nd.c nd0⟩ := rfl
@[go_sem] theorem e36 : Env.get envH 36 = some ⟨.sl 31, 1, 24, false, true, [.nil]⟩ := rfl
@[go_sem] theorem e44 : Env.get envH 44 = some ⟨.sl 5, 1, 24, false, true, [.nil]⟩ := rfl
@[go_sem] theorem e45 : Env.get envH 45 = some ⟨.int .u64, 1, 8, false, true, [.flat (.int .u64 0)]⟩ := rfl
@[go_sem] theorem e48 : Env.get envH 48 = some ⟨.arr 32 5, 32, 32, true, true, bv z32.1⟩ := rfl
@[go_sem] theorem e49 : Env.get envH 49 = some ⟨.sl 56, 1, 24, false, true, [.nil]⟩ := rfl
@[go_sem] theorem e51 : Env.get envH 51 = some ⟨.oth, 1, 8, false, true, [.flat .nilFunc]⟩ := rfl
@[go_sem] theorem e52 : Env.get envH 52 = some ⟨.arr 32 5, 32, 32, true, true, bv z32.1⟩ := rfl
@[go_sem] theorem e54 : Env.get envH 54 = some ⟨.st [(0, 3, true), (1, 9, true), (2, 9, true), (3, 52, true)], 35, 72, true, true, Dr.c dr0⟩ := rfl
@[go_sem] theorem e56 : Env.get envH 56 = some ⟨.st [(0, 3, true), (1, 54, true), (36, 3, true), (37, 3, true), (38, 52, true), (70, 3, true), (71, 9, true), (72, 9, true)], 73, 168, true, true, Ent.c ent0⟩ := rfl
@[go_sem] theorem e57 : Env.get envH 57 = some ⟨.sl 52, 1, 24, false, true, [.nil]⟩ := rfl
@[go_sem] theorem e64 : Env.get envH 64 = some ⟨.st [(0, 3, true), (1, 3, true), (2, 52, true), (34, 9, true)], 35, 64, true, true, Au.c au0⟩ := rfl
@[go_sem] theorem e65 : Env.get envH 65 = some ⟨.sl 33, 1, 24, false, true, [.nil]⟩ := rfl
@[go_sem] theorem e68 : Env.get envH 68 = some ⟨.arr 2 3, 2, 16, true, true, List.replicate 2 (.flat (.int .i64 0) : V)⟩ := rfl
@[go_sem] theorem e69 : Env.get envH 69 = some ⟨.arr 4 3, 4, 32, true, true, List.replicate 4 (.flat (.int .i64 0) : V)⟩ := rfl
@[go_sem] theorem e72 : Env.get envH 72 = some ⟨.sl 81, 1, 24, false, true, [.nil]⟩ := rfl
@[go_sem] theorem e73 : Env.get envH 73 = some ⟨.ptr 128, 1, 8, false, true, [.flat (.pointer none)]⟩ := rfl
@[go_sem] theorem e74 : Env.get envH 74 = some ⟨.ptr 79, 1, 8, false, true, [.flat (.pointer none)]⟩ := rfl
@[go_sem] theorem e77 : Env.get envH 77 = some ⟨.arr 5 33, 85, 120, true, true, rep 5 (Nd.c nd0)⟩ := rfl
@[go_sem] theorem e79 : Env.get envH 79 = some ⟨.st [(0, 3, true), (1, 9, true), (2, 36, true), (3, 49, true)], 4, 72, true, true, [.flat (.int .i64 0)] ++ [.flat (.string ByteArray.empty)] ++ [.nil] ++ [.nil]⟩ := rfl
@[go_sem] theorem e81 : Env.get envH 81 = some ⟨.st [(0, 4, true), (1, 49, true), (2, 3, true), (3, 3, true)], 4, 48, true, true, [.flat (.bool false)] ++ [.nil] ++ [.flat (.int .i64 0)] ++ [.flat (.int .i64 0)]⟩ := rfl
@[go_sem] theorem e102 : Env.get envH 102 = some ⟨.st [(0, 9, true), (1, 3, true), (2, 36, true), (3, 31, true)], 19, 64, true, true, Ky.c ky0⟩ := rfl
@[go_sem] theorem e114 : Env.get envH 114 = some ⟨.sl 9, 1, 24, false, true, [.nil]⟩ := rfl
@[go_sem] theorem e128 : Env.get envH 128 = some ⟨.st [(0, 3, true), (1, 23, true), (2, 49, true), (3, 57, true)], 4, 64, true, true, [.flat (.int .i64 0)] ++ [.flat (.pointer none)] ++ [.nil] ++ [.nil]⟩ := rfl
@[go_sem] theorem e134 : Env.get envH 134 = some ⟨.ptr 164, 1, 8, false, true, [.flat (.pointer none)]⟩ := rfl
@[go_sem] theorem e142 : Env.get envH 142 = some ⟨.st [(0, 3, true), (1, 3, true)], 2, 16, true, true, Pl.c pl0⟩ := rfl
@[go_sem] theorem e147 : Env.get envH 147 = some ⟨.arr 35 3, 35, 280, true, true, iv (iz 35)⟩ := rfl
@[go_sem] theorem e152 : Env.get envH 152 = some ⟨.sl 3, 1, 24, false, true, [.nil]⟩ := rfl
@[go_sem] theorem e154 : Env.get envH 154 = some ⟨.sl 158, 1, 24, false, true, [.nil]⟩ := rfl
@[go_sem] theorem e157 : Env.get envH 157 = some ⟨.int .u64, 1, 8, false, true, [.flat (.int .u64 0)]⟩ := rfl
@[go_sem] theorem e158 : Env.get envH 158 = some ⟨.int .u32, 1, 4, false, true, [.flat (.int .u32 0)]⟩ := rfl
@[go_sem] theorem e164 : Env.get envH 164 = some ⟨.st [(0, 9, true), (1, 4, true)], 2, 24, true, true, [.flat (.string ByteArray.empty)] ++ [.flat (.bool false)]⟩ := rfl
@[go_sem] theorem e172 : Env.get envH 172 = some ⟨.arr 8 158, 8, 32, true, true, uv (wz 8)⟩ := rfl
@[go_sem] theorem e173 : Env.get envH 173 = some ⟨.arr 8 158, 8, 32, true, true, uv (wz 8)⟩ := rfl
@[go_sem] theorem e178 : Env.get envH 178 = some ⟨.arr 64 158, 64, 256, true, true, uv (wz 64)⟩ := rfl
def envL : LEnv := [(31, ckB 16),
  (33, (ckB 16) ++ ([.int .i64])),
  (48, ckB 32),
  (52, ckB 32),
  (54, ([.int .i64]) ++ ([.str]) ++ ([.str]) ++ (ckB 32)),
  (56, ([.int .i64]) ++ (([.int .i64]) ++ ([.str]) ++ ([.str]) ++ (ckB 32)) ++ ([.int .i64]) ++ ([.int .i64]) ++ (ckB 32) ++ ([.int .i64]) ++ ([.str]) ++ ([.str])),
  (64, ([.int .i64]) ++ ([.int .i64]) ++ (ckB 32) ++ ([.str])),
  (68, List.replicate 2 (.int .i64 : CK))]
theorem lenvOk : LEnvOk Tryd.prog envL := by unfold LEnvOk; kernel_rfl
@[go_sem] theorem l31 : LEnv.get envL 31 = some (ckB 16) := rfl
@[go_sem] theorem l33 : LEnv.get envL 33 = some ((ckB 16) ++ ([.int .i64])) := rfl
@[go_sem] theorem l48 : LEnv.get envL 48 = some (ckB 32) := rfl
@[go_sem] theorem l52 : LEnv.get envL 52 = some (ckB 32) := rfl
@[go_sem] theorem l54 : LEnv.get envL 54 = some (([.int .i64]) ++ ([.str]) ++ ([.str]) ++ (ckB 32)) := rfl
@[go_sem] theorem l56 : LEnv.get envL 56 = some (([.int .i64]) ++ (([.int .i64]) ++ ([.str]) ++ ([.str]) ++ (ckB 32)) ++ ([.int .i64]) ++ ([.int .i64]) ++ (ckB 32) ++ ([.int .i64]) ++ ([.str]) ++ ([.str])) := rfl
@[go_sem] theorem l64 : LEnv.get envL 64 = some (([.int .i64]) ++ ([.int .i64]) ++ (ckB 32) ++ ([.str])) := rfl
@[go_sem] theorem l68 : LEnv.get envL 68 = some (List.replicate 2 (.int .i64 : CK)) := rfl
def GL : Nat → Option (List V) := fun n => if n = 0 then some (uv startN) else if n = 1 then some (uv roundN) else none
@[go_sem] theorem GL0 : GL 0 = some (uv startN) := rfl
@[go_sem] theorem GL1 : GL 1 = some (uv roundN) := rfl
def kc (nt : Nat) (T B : List Nat) : Cfg := ⟨envH, envL, GL, nt, T, B⟩
variable {E : Entry} {nt : Nat} {T B : List Nat}
@[go_sem] theorem kc_H : (kc nt T B).H = envH := rfl
@[go_sem] theorem kc_L : (kc nt T B).L = envL := rfl
@[go_sem] theorem kc_gl : (kc nt T B).gl = GL := rfl
@[go_sem] theorem kc_nt : (kc nt T B).nt = nt := rfl
@[go_sem] theorem kc_T : (kc nt T B).T = T := rfl
@[go_sem] theorem kc_B : (kc nt T B).B = B := rfl
abbrev Rt (f : FuncId) (args : List V) (X : V) : Prop := ∀ M mn, Sp Tryd.prog GL f args M mn (fun r m k => r = X ∧ m = M ∧ k = mn)
theorem rga (hG : GlOk E.g0 E.w0 (kc nt T B).gl) {id : Nat} {ops : Array Oper} {y : Code} {σ : S} {Q : QC} (hd : dstOk nt ops.toList = true)
    (h : ∀ (Θ : Ctx Tryd.prog E (kc nt T B)) (K : S → Prop), Θ.ops = ops.toList → (∀ σ, WC Tryd.prog E (kc nt T B) y σ Q → K σ) → Post Θ (run (kc nt T B) (ops.toList.map (·.dst)) ops.toList σ True) K) : WC Tryd.prog E (kc nt T B) (.seq (.region id ops false) y) σ Q := WC.regionSeq envOk lenvOk hG hd h
theorem rgb (hG : GlOk E.g0 E.w0 (kc nt T B).gl) {id : Nat} {ops : Array Oper} {σ : S} {Q : QC} (hd : dstOk nt ops.toList = true)
    (h : ∀ (Θ : Ctx Tryd.prog E (kc nt T B)) (K : S → Prop), Θ.ops = ops.toList → (∀ σ, Q .normal σ → K σ) → Post Θ (run (kc nt T B) (ops.toList.map (·.dst)) ops.toList σ True) K) : WC Tryd.prog E (kc nt T B) (.region id ops false) σ Q := WC.region envOk lenvOk hG hd h
theorem rgd (cl : Cl) (hG : GlOk E.g0 E.w0 (kc nt T B).gl) {id : Nat} {ops : Array Oper} {σ : S} {Q : QC} (hd : dstOk nt ops.toList = true) (h5 : ∀ k op, cl k op ≤ 8) (hsl : (σ.sl.all fun p => decide (p.1 < nt)) = true)
    (hB : lexC T ops cl ops.size 0 (Array.replicate ops.size false) = true)
    (h : ∀ {E' : Entry} (Θ : CtxB Tryd.prog E' (kc nt T B)) (K : S → Prop), Θ.ops = ops.toList → Θ.cl = cl → Θ.n0 = σ.mn → (∀ σ, Q .normal σ → K σ) → PostB Θ (runB (kc nt T B) σ.mn cl (ops.toList.map (·.dst)) 0 ops.toList σ True) K) : WC Tryd.prog E (kc nt T B) (.region id ops true) σ Q := WC.regionB cl envOk lenvOk hG (by kernel_rfl) hd h5 hsl hB h
theorem rgc (cl : Cl) (hG : GlOk E.g0 E.w0 (kc nt T B).gl) {id : Nat} {ops : Array Oper} {y : Code} {σ : S} {Q : QC} (hd : dstOk nt ops.toList = true) (h5 : ∀ k op, cl k op ≤ 8) (hsl : (σ.sl.all fun p => decide (p.1 < nt)) = true)
    (hB : lexC T ops cl ops.size 0 (Array.replicate ops.size false) = true)
    (h : ∀ {E' : Entry} (Θ : CtxB Tryd.prog E' (kc nt T B)) (K : S → Prop), Θ.ops = ops.toList → Θ.cl = cl → Θ.n0 = σ.mn → (∀ σ, WC Tryd.prog E (kc nt T B) y σ Q → K σ) → PostB Θ (runB (kc nt T B) σ.mn cl (ops.toList.map (·.dst)) 0 ops.toList σ True) K) : WC Tryd.prog E (kc nt T B) (.seq (.region id ops true) y) σ Q :=
  WC.seq (rgd cl hG hd h5 hsl hB (fun Θ K a b c hK => h Θ K a b c (fun σ q => hK σ (nxt_n q))))
end Go.VL

set_option linter.unusedVariables false
set_option linter.unusedSimpArgs false
set_option maxRecDepth 100000
set_option maxHeartbeats 8000000
open Go.RowKit
namespace Go.VL
open Go.Proofs
theorem Num_sp (n : Int) (hn : n < 9223372036854775808) : Rt 64 [.flat (.int .i64 n)] (.flat (.string (bs (numB n.toNat)))) := by
  have hmax : (if (0 : Int) > n then 0 else n) = ((n.toNat : Nat) : Int) := by split <;> omega
  intro M mn
  refine fnL (C := kc 38 [13, 29] []) (rs := [.tmp 2]) envOk Tryd.func64 (by kernel_rfl) rfl rfl rfl rfl rfl rfl (Low.flat _) ?_
  intro E hG hM
  repeat' (first | (with_reducible first | refine pa ?_ | refine pb ?_ | refine pc ?_ | refine nxt_n ?_ | refine nxt_e ?_ | refine nxt_r ?_ | refine blk_n ?_ | refine blk_r ?_ | refine blk_hit ?_ | refine blk_miss (by rfl) ?_ | refine pd ?_ | refine pe ?_ | refine pf ?_ | refine pg ?_ | apply And.intro) | (refine hK _ ?_; clear hK K hΘ Θ) | (with_reducible first | refine cw1 ?_ | refine cw2 ?_ | exact cw3 | exact cw4) | ((with_reducible first | refine cw5 (fun gg => ?_) | refine cw6 (fun gg => ?_) | refine cw7 (fun gg => ?_)); try simp only [gg]) | refine cs1 hG rfl ?_ ?_ | refine cs2 hG rfl ?_ ?_ | ((first | refine rga hG (by kernel_rfl) (fun Θ K hΘ hK => ?_) | refine rgb hG (by kernel_rfl) (fun Θ K hΘ hK => ?_)); simp (maxSteps := 2000000) only [go_sem, seval, reduceCtorEq, List.append_eq, hmax]) | ((first | refine Post.splitN (fun gg => ?_) (fun gg => ?_) | refine Post.split (fun gg => ?_) (fun gg => ?_)) <;> simp (maxSteps := 2000000) only [go_sem, seval, reduceCtorEq, List.append_eq, gg, hmax]) | (refine finR (by simp only [go_sem, seval, reduceCtorEq, List.append_eq, hmax]; exact rfl) ?_; simp only [go_sem, seval, reduceCtorEq, List.append_eq, hmax]) | refine updL hM ?_ (by omega) | (with_reducible exact fun _ _ => rfl))
  all_goals (first | omega | (simp only [decide_eq_true_eq, decide_eq_false_iff_not] at *; omega) | (simp only [List.length_append, List.length_cons, List.length_nil] <;> omega) | exact one_bv _ | exact one_sv _ | skip)
  refine WC.loopA (fun q : Nat × List UInt8 => ⟨[(4, .flat (.int .i64 q.1)), (3, .sl true 1 q.2.length (bv q.2))], M, mn⟩) (fun q => q.1) (fun q => q.2 ++ le q.1 = le n.toNat) (n.toNat, []) (by simp) (sbs (by simp (maxSteps := 2000000) only [go_sem, seval, reduceCtorEq, List.append_eq, hmax, List.length_nil]) rfl rfl) ?_
  rintro ⟨x, pre⟩ hpre
  simp only at hpre ⊢
  have hl8 : (le n.toNat).length ≤ 8 := le_length 8 _ (by omega)
  have hl : pre.length ≤ 8 := by
    have := congrArg List.length hpre
    rw [List.length_append] at this; omega
  by_cases hx : 0 < x
  · have f1 : ((x : Int) > 0) = True := eq_true (by omega)
    repeat' (first | (with_reducible first | refine pa ?_ | refine pb ?_ | refine pc ?_ | refine nxt_n ?_ | refine nxt_e ?_ | refine nxt_r ?_ | refine blk_n ?_ | refine blk_r ?_ | refine blk_hit ?_ | refine blk_miss (by rfl) ?_ | refine pd ?_ | refine pe ?_ | refine pf ?_ | refine pg ?_ | apply And.intro) | (refine hK _ ?_; clear hK K hΘ Θ) | (with_reducible first | refine cw1 ?_ | refine cw2 ?_ | exact cw3 | exact cw4) | ((with_reducible first | refine cw5 (fun gg => ?_) | refine cw6 (fun gg => ?_) | refine cw7 (fun gg => ?_)); try simp only [gg]) | refine cs1 hG rfl ?_ ?_ | refine cs2 hG rfl ?_ ?_ | ((first | refine rga hG (by kernel_rfl) (fun Θ K hΘ hK => ?_) | refine rgb hG (by kernel_rfl) (fun Θ K hΘ hK => ?_)); simp (maxSteps := 2000000) only [go_sem, seval, reduceCtorEq, List.append_eq, f1, w_byteN, w_shrI8]) | ((first | refine Post.splitN (fun gg => ?_) (fun gg => ?_) | refine Post.split (fun gg => ?_) (fun gg => ?_)) <;> simp (maxSteps := 2000000) only [go_sem, seval, reduceCtorEq, List.append_eq, gg, f1, w_byteN, w_shrI8]) | (refine finR (by simp only [go_sem, seval, reduceCtorEq, List.append_eq, f1, w_byteN, w_shrI8]; exact rfl) ?_; simp only [go_sem, seval, reduceCtorEq, List.append_eq, f1, w_byteN, w_shrI8]) | refine updL hM ?_ (by omega) | (with_reducible exact fun _ _ => rfl))
    all_goals (first | omega | (simp only [decide_eq_true_eq, decide_eq_false_iff_not] at *; omega) | (simp only [List.length_append, List.length_cons, List.length_nil] <;> omega) | exact one_bv _ | exact one_sv _ | skip)
    exact ⟨(x / 256, pre ++ [UInt8.ofNat x]), by simp only; rw [List.append_assoc, ← hpre, le_pos hx, show UInt8.ofNat (x % 256) = UInt8.ofNat x from UInt8.toNat_inj.1 (by simp)]; rfl, by simp only; omega, (sbs (by simp (maxSteps := 2000000) only [go_sem, seval, reduceCtorEq, List.append_eq, len_snoc]) rfl rfl)⟩
  · have f1 : ((x : Int) > 0) = False := eq_false (by omega)
    have hx : x = 0 := by omega
    subst hx
    have hpe : pre = le n.toNat := by rw [← hpre, le_zero, List.append_nil]
    rw [numB, ← hpe]
    have v1 : IntKind.i64.wrap ((pre.length : Int) - 1) = (pre.length : Int) - 1 := wi (by omega) (by omega)
    repeat' (first | (with_reducible first | refine pa ?_ | refine pb ?_ | refine pc ?_ | refine nxt_n ?_ | refine nxt_e ?_ | refine nxt_r ?_ | refine blk_n ?_ | refine blk_r ?_ | refine blk_hit ?_ | refine blk_miss (by rfl) ?_ | refine pd ?_ | refine pe ?_ | refine pf ?_ | refine pg ?_ | apply And.intro) | (refine hK _ ?_; clear hK K hΘ Θ) | (with_reducible first | refine cw1 ?_ | refine cw2 ?_ | exact cw3 | exact cw4) | ((with_reducible first | refine cw5 (fun gg => ?_) | refine cw6 (fun gg => ?_) | refine cw7 (fun gg => ?_)); try simp only [gg]) | refine cs1 hG rfl ?_ ?_ | refine cs2 hG rfl ?_ ?_ | ((first | refine rga hG (by kernel_rfl) (fun Θ K hΘ hK => ?_) | refine rgb hG (by kernel_rfl) (fun Θ K hΘ hK => ?_)); simp (maxSteps := 2000000) only [go_sem, seval, reduceCtorEq, List.append_eq, f1, w_byteN, v1]) | ((first | refine Post.splitN (fun gg => ?_) (fun gg => ?_) | refine Post.split (fun gg => ?_) (fun gg => ?_)) <;> simp (maxSteps := 2000000) only [go_sem, seval, reduceCtorEq, List.append_eq, gg, f1, w_byteN, v1]) | (refine finR (by simp only [go_sem, seval, reduceCtorEq, List.append_eq, f1, w_byteN, v1]; exact rfl) ?_; simp only [go_sem, seval, reduceCtorEq, List.append_eq, f1, w_byteN, v1]) | refine updL hM ?_ (by omega) | (with_reducible exact fun _ _ => rfl))
    all_goals (first | omega | (simp only [decide_eq_true_eq, decide_eq_false_iff_not] at *; omega) | (simp only [List.length_append, List.length_cons, List.length_nil] <;> omega) | exact one_bv _ | exact one_sv _ | skip)
    refine WC.loopA (fun m : Nat => ⟨[(6, .flat (.int .i64 ((m : Int) - 1))), (5, .sl true 1 (UInt8.ofNat pre.length :: (pre.drop m).reverse).length (bv (UInt8.ofNat pre.length :: (pre.drop m).reverse))), (3, .sl false 1 pre.length (bv pre))], M, mn⟩) (fun m => m) (fun m => m ≤ pre.length) pre.length (Nat.le_refl _) (sbs (by simp (maxSteps := 2000000) only [go_sem, seval, reduceCtorEq, List.append_eq, List.drop_length, List.reverse_nil, bv_one]) rfl rfl) ?_
    intro m hm
    have hQ : (UInt8.ofNat pre.length :: (pre.drop m).reverse).length ≤ 100 := by simp; omega
    by_cases h0 : 0 < m
    · have f2 : ((m : Int) - 1 ≥ 0) = True := eq_true (by omega)
      have v2 : ((m : Int) - 1).toNat = m - 1 := by omega
      have v3 : (m - 1 < pre.length) = True := eq_true (by omega)
      have v4 : IntKind.i64.wrap ((m : Int) - 1 - 1) = ((m - 1 : Nat) : Int) - 1 := by rw [wi (by omega) (by omega)]; omega
      have hrev : UInt8.ofNat pre.length :: (pre.drop (m - 1)).reverse = UInt8.ofNat pre.length :: (pre.drop m).reverse ++ [pre.getD (m - 1) 0] := by
        have := List.drop_eq_getElem_cons (l := pre) (i := m - 1) (by omega)
        rw [show m - 1 + 1 = m by omega] at this
        rw [this, List.reverse_cons, List.getD_eq_getElem?_getD, List.getElem?_eq_getElem (by omega)]; rfl
      generalize UInt8.ofNat pre.length :: (pre.drop m).reverse = Q at *
      repeat' (first | (with_reducible first | refine pa ?_ | refine pb ?_ | refine pc ?_ | refine nxt_n ?_ | refine nxt_e ?_ | refine nxt_r ?_ | refine blk_n ?_ | refine blk_r ?_ | refine blk_hit ?_ | refine blk_miss (by rfl) ?_ | refine pd ?_ | refine pe ?_ | refine pf ?_ | refine pg ?_ | apply And.intro) | (refine hK _ ?_; clear hK K hΘ Θ) | (with_reducible first | refine cw1 ?_ | refine cw2 ?_ | exact cw3 | exact cw4) | ((with_reducible first | refine cw5 (fun gg => ?_) | refine cw6 (fun gg => ?_) | refine cw7 (fun gg => ?_)); try simp only [gg]) | refine cs1 hG rfl ?_ ?_ | refine cs2 hG rfl ?_ ?_ | ((first | refine rga hG (by kernel_rfl) (fun Θ K hΘ hK => ?_) | refine rgb hG (by kernel_rfl) (fun Θ K hΘ hK => ?_)); simp (maxSteps := 2000000) only [go_sem, seval, reduceCtorEq, List.append_eq, f2, v2, v3, v4]) | ((first | refine Post.splitN (fun gg => ?_) (fun gg => ?_) | refine Post.split (fun gg => ?_) (fun gg => ?_)) <;> simp (maxSteps := 2000000) only [go_sem, seval, reduceCtorEq, List.append_eq, gg, f2, v2, v3, v4]) | (refine finR (by simp only [go_sem, seval, reduceCtorEq, List.append_eq, f2, v2, v3, v4]; exact rfl) ?_; simp only [go_sem, seval, reduceCtorEq, List.append_eq, f2, v2, v3, v4]) | refine updL hM ?_ (by omega) | (with_reducible exact fun _ _ => rfl))
      all_goals (first | omega | (simp only [decide_eq_true_eq, decide_eq_false_iff_not] at *; omega) | (simp only [List.length_append, List.length_cons, List.length_nil] <;> omega) | exact one_bv _ | exact one_sv _ | skip)
      exact ⟨m - 1, by omega, by omega, (sbs (by simp (maxSteps := 2000000) only [go_sem, seval, reduceCtorEq, List.append_eq, hrev, len_snoc]) rfl rfl)⟩
    · have f2 : ((m : Int) - 1 ≥ 0) = False := eq_false (by omega)
      have : m = 0 := by omega
      subst this
      rw [List.drop_zero]
      generalize UInt8.ofNat pre.length :: pre.reverse = Q at *
      repeat' (first | (with_reducible first | refine pa ?_ | refine pb ?_ | refine pc ?_ | refine nxt_n ?_ | refine nxt_e ?_ | refine nxt_r ?_ | refine blk_n ?_ | refine blk_r ?_ | refine blk_hit ?_ | refine blk_miss (by rfl) ?_ | refine pd ?_ | refine pe ?_ | refine pf ?_ | refine pg ?_ | apply And.intro) | (refine hK _ ?_; clear hK K hΘ Θ) | (with_reducible first | refine cw1 ?_ | refine cw2 ?_ | exact cw3 | exact cw4) | ((with_reducible first | refine cw5 (fun gg => ?_) | refine cw6 (fun gg => ?_) | refine cw7 (fun gg => ?_)); try simp only [gg]) | refine cs1 hG rfl ?_ ?_ | refine cs2 hG rfl ?_ ?_ | ((first | refine rga hG (by kernel_rfl) (fun Θ K hΘ hK => ?_) | refine rgb hG (by kernel_rfl) (fun Θ K hΘ hK => ?_)); simp (maxSteps := 2000000) only [go_sem, seval, reduceCtorEq, List.append_eq, f2]) | ((first | refine Post.splitN (fun gg => ?_) (fun gg => ?_) | refine Post.split (fun gg => ?_) (fun gg => ?_)) <;> simp (maxSteps := 2000000) only [go_sem, seval, reduceCtorEq, List.append_eq, gg, f2]) | (refine finR (by simp only [go_sem, seval, reduceCtorEq, List.append_eq, f2]; exact rfl) ?_; simp only [go_sem, seval, reduceCtorEq, List.append_eq, f2]) | refine updL hM ?_ (by omega) | (with_reducible exact fun _ _ => rfl))
      all_goals (first | omega | (simp only [decide_eq_true_eq, decide_eq_false_iff_not] at *; omega) | (simp only [List.length_append, List.length_cons, List.length_nil] <;> omega) | exact one_bv _ | exact one_sv _ | skip)
theorem List_sp (l : List (List UInt8)) (hs : total l ≤ 1000000000) (hl : l.length ≤ 1000000) : Rt 77 [.sl false 1 l.length (sv l)] (.flat (.string (bs (listB l)))) := by
  have hn := numB_length l.length (by omega)
  intro M mn
  refine fnL (C := kc 26 [16] []) (rs := [.tmp 2]) envOk Tryd.func77 (by kernel_rfl) rfl rfl rfl rfl rfl rfl (Low.flat _) ?_
  intro E hG hM
  repeat' (first | (with_reducible first | refine pa ?_ | refine pb ?_ | refine pc ?_ | refine nxt_n ?_ | refine nxt_e ?_ | refine nxt_r ?_ | refine blk_n ?_ | refine blk_r ?_ | refine blk_hit ?_ | refine blk_miss (by rfl) ?_ | refine pd ?_ | refine pe ?_ | refine pf ?_ | refine pg ?_ | apply And.intro) | (refine hK _ ?_; clear hK K hΘ Θ) | (with_reducible first | refine cw1 ?_ | refine cw2 ?_ | exact cw3 | exact cw4) | ((with_reducible first | refine cw5 (fun gg => ?_) | refine cw6 (fun gg => ?_) | refine cw7 (fun gg => ?_)); try simp only [gg]) | refine cs1 hG rfl ?_ ?_ | refine cs2 hG rfl ?_ ?_ | ((first | refine kg (Num_sp _ (by omega) _ _) rfl hΘ ?_ | refine rga hG (by kernel_rfl) (fun Θ K hΘ hK => ?_) | refine rgb hG (by kernel_rfl) (fun Θ K hΘ hK => ?_)); simp (maxSteps := 2000000) only [go_sem, seval, reduceCtorEq, List.append_eq]) | ((first | refine Post.splitN (fun gg => ?_) (fun gg => ?_) | refine Post.split (fun gg => ?_) (fun gg => ?_)) <;> simp (maxSteps := 2000000) only [go_sem, seval, reduceCtorEq, List.append_eq, gg]) | (refine finR (by simp only [go_sem, seval, reduceCtorEq, List.append_eq]; exact rfl) ?_; simp only [go_sem, seval, reduceCtorEq, List.append_eq]) | refine updL hM ?_ (by omega) | (with_reducible exact fun _ _ => rfl))
  all_goals (first | omega | (simp only [decide_eq_true_eq, decide_eq_false_iff_not] at *; omega) | (simp only [List.length_append, List.length_cons, List.length_nil] <;> omega) | exact one_bv _ | exact one_sv _ | skip)
  refine WC.loopA (fun q : Nat × List UInt8 => ⟨[(12, .flat (.int .i64 q.1)), (11, .flat (.int .i64 l.length)), (10, .sl false 1 l.length (sv l)), (3, .sl true 1 q.2.length (bv q.2))], M, mn⟩) (fun q => l.length - q.1) (fun q => q.1 ≤ l.length ∧ q.2 = numB l.length ++ listTail (l.take q.1)) (0, numB l.length) ⟨by simp, by simp [listTail]⟩ (sbs (by simp (maxSteps := 2000000) only [go_sem, seval, reduceCtorEq, List.append_eq, Int.toNat_natCast]) rfl rfl) ?_
  rintro ⟨i, b⟩ ⟨hi, hb⟩
  simp only at hi hb ⊢
  by_cases h : i < l.length
  · have f1 : ((i : Int) < (l.length : Int)) = True := eq_true (by omega)
    have g1 : (i < l.length) = True := eq_true h
    have hmem : l.getD i [] ∈ l := by
      rw [List.getD_eq_getElem?_getD, List.getElem?_eq_getElem h]; exact List.getElem_mem _
    have hsz := mem_total hmem
    have hnl := numB_length (l.getD i []).length (by omega)
    have htl := listTail_length (l.take i) (by have := total_take l i; omega)
    have htt := total_take l i
    have hll : (l.take i).length ≤ l.length := by simp; omega
    have htn : b.length ≤ 2000000000 := by rw [hb, List.length_append]; omega
    have v1 := wi1 (n := i) (by omega)
    repeat' (first | (with_reducible first | refine pa ?_ | refine pb ?_ | refine pc ?_ | refine nxt_n ?_ | refine nxt_e ?_ | refine nxt_r ?_ | refine blk_n ?_ | refine blk_r ?_ | refine blk_hit ?_ | refine blk_miss (by rfl) ?_ | refine pd ?_ | refine pe ?_ | refine pf ?_ | refine pg ?_ | apply And.intro) | (refine hK _ ?_; clear hK K hΘ Θ) | (with_reducible first | refine cw1 ?_ | refine cw2 ?_ | exact cw3 | exact cw4) | ((with_reducible first | refine cw5 (fun gg => ?_) | refine cw6 (fun gg => ?_) | refine cw7 (fun gg => ?_)); try simp only [gg]) | refine cs1 hG rfl ?_ ?_ | refine cs2 hG rfl ?_ ?_ | ((first | refine kg (Num_sp _ (by omega) _ _) rfl hΘ ?_ | refine rga hG (by kernel_rfl) (fun Θ K hΘ hK => ?_) | refine rgb hG (by kernel_rfl) (fun Θ K hΘ hK => ?_)); simp (maxSteps := 2000000) only [go_sem, seval, reduceCtorEq, List.append_eq, f1, g1, v1]) | ((first | refine Post.splitN (fun gg => ?_) (fun gg => ?_) | refine Post.split (fun gg => ?_) (fun gg => ?_)) <;> simp (maxSteps := 2000000) only [go_sem, seval, reduceCtorEq, List.append_eq, gg, f1, g1, v1]) | (refine finR (by simp only [go_sem, seval, reduceCtorEq, List.append_eq, f1, g1, v1]; exact rfl) ?_; simp only [go_sem, seval, reduceCtorEq, List.append_eq, f1, g1, v1]) | refine updL hM ?_ (by omega) | (with_reducible exact fun _ _ => rfl))
    all_goals (first | omega | (simp only [decide_eq_true_eq, decide_eq_false_iff_not] at *; omega) | (simp only [List.length_append, List.length_cons, List.length_nil] <;> omega) | exact one_bv _ | exact one_sv _ | skip)
    refine ⟨(i + 1, b ++ numB (l.getD i []).length ++ l.getD i []), ⟨by simp only; omega, ?_⟩, by simp only; omega, (sbs (by simp (maxSteps := 2000000) only [go_sem, seval, reduceCtorEq, List.append_eq, List.length_append]) rfl rfl)⟩
    simp only
    rw [hb, take_succ' h, listTail_append, listTail_one, textB]; simp
  · have f1 : ((i : Int) < (l.length : Int)) = False := eq_false (by omega)
    rw [List.take_of_length_le (by omega)] at hb
    repeat' (first | (with_reducible first | refine pa ?_ | refine pb ?_ | refine pc ?_ | refine nxt_n ?_ | refine nxt_e ?_ | refine nxt_r ?_ | refine blk_n ?_ | refine blk_r ?_ | refine blk_hit ?_ | refine blk_miss (by rfl) ?_ | refine pd ?_ | refine pe ?_ | refine pf ?_ | refine pg ?_ | apply And.intro) | (refine hK _ ?_; clear hK K hΘ Θ) | (with_reducible first | refine cw1 ?_ | refine cw2 ?_ | exact cw3 | exact cw4) | ((with_reducible first | refine cw5 (fun gg => ?_) | refine cw6 (fun gg => ?_) | refine cw7 (fun gg => ?_)); try simp only [gg]) | refine cs1 hG rfl ?_ ?_ | refine cs2 hG rfl ?_ ?_ | ((first | refine rga hG (by kernel_rfl) (fun Θ K hΘ hK => ?_) | refine rgb hG (by kernel_rfl) (fun Θ K hΘ hK => ?_)); simp (maxSteps := 2000000) only [go_sem, seval, reduceCtorEq, List.append_eq, f1]) | ((first | refine Post.splitN (fun gg => ?_) (fun gg => ?_) | refine Post.split (fun gg => ?_) (fun gg => ?_)) <;> simp (maxSteps := 2000000) only [go_sem, seval, reduceCtorEq, List.append_eq, gg, f1]) | (refine finR (by simp only [go_sem, seval, reduceCtorEq, List.append_eq, f1]; exact rfl) ?_; simp only [go_sem, seval, reduceCtorEq, List.append_eq, f1]) | refine updL hM ?_ (by omega) | (with_reducible exact fun _ _ => rfl))
    all_goals (first | omega | (simp only [decide_eq_true_eq, decide_eq_false_iff_not] at *; omega) | (simp only [List.length_append, List.length_cons, List.length_nil] <;> omega) | exact one_bv _ | exact one_sv _ | skip)
    all_goals (rw [hb]; rfl)
end Go.VL

set_option linter.unusedVariables false
set_option linter.unusedSimpArgs false
set_option maxRecDepth 100000
set_option maxHeartbeats 8000000
open Go.RowKit
namespace Go.VL
open Go.Proofs
theorem GoodDraft_sp (d : Dr) (hd : d.ok) : Rt 111 [.agg d.c] (.flat (.bool d.good)) := by
  have hf := Dr.fit d hd
  have hz := Dr.fit dr0 (by unfold Dr.ok inR; simp [dr0])
  have f1 := fit_bv d.ref.1 32 d.ref.2
  have f2 := fit_bv z32.1 32 z32.2
  intro M mn
  refine fnL (C := kc 41 [] []) (rs := [.tmp 2]) envOk Tryd.func111 (by kernel_rfl) rfl rfl rfl rfl rfl rfl (Low.flat _) ?_
  intro E hG hM
  repeat' (first | (with_reducible first | refine pa ?_ | refine pb ?_ | refine pc ?_ | refine nxt_n ?_ | refine nxt_e ?_ | refine nxt_r ?_ | refine blk_n ?_ | refine blk_r ?_ | refine blk_hit ?_ | refine blk_miss (by rfl) ?_ | refine pd ?_ | refine pe ?_ | refine pf ?_ | refine pg ?_ | apply And.intro) | (refine hK _ ?_; clear hK K hΘ Θ) | (with_reducible first | refine cw1 ?_ | refine cw2 ?_ | exact cw3 | exact cw4) | ((with_reducible first | refine cw5 (fun gg => ?_) | refine cw6 (fun gg => ?_) | refine cw7 (fun gg => ?_)); try simp only [gg]) | refine cs1 hG rfl ?_ ?_ | refine cs2 hG rfl ?_ ?_ | ((first | refine rga hG (by kernel_rfl) (fun Θ K hΘ hK => ?_) | refine rgb hG (by kernel_rfl) (fun Θ K hΘ hK => ?_)); simp (maxSteps := 2000000) only [go_sem, seval, reduceCtorEq]) | ((first | refine Post.splitN (fun gg => ?_) (fun gg => ?_) | refine Post.split (fun gg => ?_) (fun gg => ?_)) <;> simp (maxSteps := 2000000) only [go_sem, seval, reduceCtorEq, gg]) | (refine finR (by simp only [go_sem, seval, reduceCtorEq]; exact rfl) ?_; simp only [go_sem, seval, reduceCtorEq]) | refine updL hM ?_ (by omega) | (with_reducible exact fun _ _ => rfl))
  all_goals (first | omega | (simp only [decide_eq_true_eq, decide_eq_false_iff_not] at *; omega) | (simp only [List.length_append, List.length_cons, List.length_nil] <;> omega) | exact one_bv _ | exact one_sv _ | skip)
  all_goals
    clear hf hz f1 f2
    simp_all [Dr.good, Dr.kindOk]
    try (first | omega | (rw [Bool.eq_iff_iff]; simp only [Bool.and_eq_true, decide_eq_true_eq]; omega))
theorem draft_sp (d : Dr) (hd : d.ok) (ht : d.key.length + d.val.length ≤ 900000) : Rt 124 [.agg d.c] (.flat (.string (bs d.text))) := by
  obtain ⟨hk, h1, h2⟩ := id hd
  have hk2 : d.k < 9223372036854775808 := by have := hk.2; omega
  have hn := numB_length d.k.toNat (by omega)
  have hb := bytesV_bv d.ref.1
  have htx : bs (listB [numB d.k.toNat, d.key, d.val, d.ref.1]) = bs d.text := rfl
  have tb := take_bv32 d.ref
  intro M mn
  refine fnL (C := kc 15 [] []) (rs := [.tmp 2]) envOk Tryd.func124 (by kernel_rfl) rfl rfl rfl rfl rfl rfl (Low.flat _) ?_
  intro E hG hM
  repeat' (first | (with_reducible first | refine pa ?_ | refine pb ?_ | refine pc ?_ | refine nxt_n ?_ | refine nxt_e ?_ | refine nxt_r ?_ | refine blk_n ?_ | refine blk_r ?_ | refine blk_hit ?_ | refine blk_miss (by rfl) ?_ | refine pd ?_ | refine pe ?_ | refine pf ?_ | refine pg ?_ | apply And.intro) | (refine hK _ ?_; first | clear hK K hn0 hcl hΘ Θ | clear hK K hΘ Θ) | (with_reducible first | refine cw1 ?_ | refine cw2 ?_ | exact cw3 | exact cw4) | ((with_reducible first | refine cw5 (fun gg => ?_) | refine cw6 (fun gg => ?_) | refine cw7 (fun gg => ?_)); try simp only [gg]) | refine cs1 hG rfl ?_ ?_ | refine cs2 hG rfl ?_ ?_ | ((first | refine kf (fun M n => Num_sp d.k hk2 M n) rfl (by decide) cl0 hΘ hcl hn0 ?_ | refine kf (fun M n => List_sp [numB d.k.toNat, d.key, d.val, d.ref.1] (by simp [total, d.ref.2]; omega) (by simp) M n) rfl (by decide) cl0 hΘ hcl hn0 ?_ | refine rga hG (by kernel_rfl) (fun Θ K hΘ hK => ?_) | refine rgb hG (by kernel_rfl) (fun Θ K hΘ hK => ?_) | refine rgc defCl hG (by kernel_rfl) cl0 (by rfl) (by kernel_rfl) (fun Θ K hΘ hcl hn0 hK => ?_) | refine rgd defCl hG (by kernel_rfl) cl0 (by rfl) (by kernel_rfl) (fun Θ K hΘ hcl hn0 hK => ?_)); simp (maxSteps := 2000000) only [go_sem, seval, reduceCtorEq, htx, tb]) | ((first | refine Post.splitN (fun gg => ?_) (fun gg => ?_) | refine PostB.splitN (fun gg => ?_) (fun gg => ?_) | refine Post.split (fun gg => ?_) (fun gg => ?_) | refine PostB.split (fun gg => ?_) (fun gg => ?_)) <;> simp (maxSteps := 2000000) only [go_sem, seval, reduceCtorEq, gg, htx, tb]) | (refine finR (by simp only [go_sem, seval, reduceCtorEq, htx, tb]; exact rfl) ?_; simp only [go_sem, seval, reduceCtorEq, htx, tb]) | refine updL hM ?_ (by omega) | (with_reducible exact fun _ _ => rfl))
  all_goals (first | omega | (simp only [decide_eq_true_eq, decide_eq_false_iff_not] at *; omega) | (simp only [List.length_append, List.length_cons, List.length_nil] <;> omega) | exact one_bv _ | exact one_sv _ | skip)
theorem DraftText_sp (d : Dr) (hd : d.ok) (ht : d.key.length + d.val.length ≤ 900000) : Rt 112 [.agg d.c] (.flat (.string (bs d.text))) := by
  intro M mn
  refine fnL (C := kc 5 [] []) (rs := [.tmp 2]) envOk Tryd.func112 (by kernel_rfl) rfl rfl rfl rfl rfl rfl (Low.flat _) ?_
  intro E hG hM
  repeat' (first | (with_reducible first | refine pa ?_ | refine pb ?_ | refine pc ?_ | refine nxt_n ?_ | refine nxt_e ?_ | refine nxt_r ?_ | refine blk_n ?_ | refine blk_r ?_ | refine blk_hit ?_ | refine blk_miss (by rfl) ?_ | refine pd ?_ | refine pe ?_ | refine pf ?_ | refine pg ?_ | apply And.intro) | (refine hK _ ?_; clear hK K hΘ Θ) | (with_reducible first | refine cw1 ?_ | refine cw2 ?_ | exact cw3 | exact cw4) | ((with_reducible first | refine cw5 (fun gg => ?_) | refine cw6 (fun gg => ?_) | refine cw7 (fun gg => ?_)); try simp only [gg]) | refine cs1 hG rfl ?_ ?_ | refine cs2 hG rfl ?_ ?_ | ((first | refine kg (draft_sp d hd ht _ _) rfl hΘ ?_ | refine rga hG (by kernel_rfl) (fun Θ K hΘ hK => ?_) | refine rgb hG (by kernel_rfl) (fun Θ K hΘ hK => ?_)); simp (maxSteps := 2000000) only [go_sem, seval, reduceCtorEq]) | ((first | refine Post.splitN (fun gg => ?_) (fun gg => ?_) | refine Post.split (fun gg => ?_) (fun gg => ?_)) <;> simp (maxSteps := 2000000) only [go_sem, seval, reduceCtorEq, gg]) | (refine finR (by simp only [go_sem, seval, reduceCtorEq]; exact rfl) ?_; simp only [go_sem, seval, reduceCtorEq]) | refine updL hM ?_ (by omega) | (with_reducible exact fun _ _ => rfl))
  all_goals (first | omega | (simp only [decide_eq_true_eq, decide_eq_false_iff_not] at *; omega) | (simp only [List.length_append, List.length_cons, List.length_nil] <;> omega) | exact one_bv _ | exact one_sv _ | skip)
end Go.VL

set_option linter.unusedVariables false
set_option linter.unusedSimpArgs false
set_option maxRecDepth 100000
set_option maxHeartbeats 8000000
open Go.RowKit
namespace Go.VL
open Go.Proofs
theorem Open_sp (s : List UInt8) (M : Mem) (mn : Nat) : Sp Tryd.prog GL 86 [.flat (.string (bs s))] M mn (fun r m k => r = .bp mn 0 ∧ m = upd M mn (rd s (decide ((s.length : Int) > 262144))) ∧ k = mn + 1) := by
  refine fnP (C := kc 9 [] []) (rs := [.tmp 2]) envOk Tryd.func86 (by kernel_rfl) rfl rfl rfl rfl rfl rfl ?_
  intro E hG hM
  repeat' (first | (with_reducible first | refine pa ?_ | refine pb ?_ | refine pc ?_ | refine nxt_n ?_ | refine nxt_e ?_ | refine nxt_r ?_ | refine blk_n ?_ | refine blk_r ?_ | refine blk_hit ?_ | refine blk_miss (by rfl) ?_ | refine pd ?_ | refine pe ?_ | refine pf ?_ | refine pg ?_ | apply And.intro) | (refine hK _ ?_; clear hK K hΘ Θ) | (with_reducible first | refine cw1 ?_ | refine cw2 ?_ | exact cw3 | exact cw4) | ((with_reducible first | refine cw5 (fun gg => ?_) | refine cw6 (fun gg => ?_) | refine cw7 (fun gg => ?_)); try simp only [gg]) | refine cs1 hG rfl ?_ ?_ | refine cs2 hG rfl ?_ ?_ | ((first | refine rga hG (by kernel_rfl) (fun Θ K hΘ hK => ?_) | refine rgb hG (by kernel_rfl) (fun Θ K hΘ hK => ?_)); simp (maxSteps := 2000000) only [go_sem, seval, reduceCtorEq]) | ((first | refine Post.splitN (fun gg => ?_) (fun gg => ?_) | refine Post.split (fun gg => ?_) (fun gg => ?_)) <;> simp (maxSteps := 2000000) only [go_sem, seval, reduceCtorEq, gg]) | (refine finR (by simp only [go_sem, seval, reduceCtorEq]; exact rfl) ?_; simp only [go_sem, seval, reduceCtorEq]) | refine updL hM ?_ (by omega) | (with_reducible exact fun _ _ => rfl))
  all_goals (first | omega | (simp only [decide_eq_true_eq, decide_eq_false_iff_not] at *; omega) | (simp only [List.length_append, List.length_cons, List.length_nil] <;> omega) | exact one_bv _ | exact one_sv _ | skip)
  all_goals rfl
theorem fail_sp (b : Nat) (s : List UInt8) (f : Bool) (M : Mem) (mn : Nat) (hb : M b = rd s f) : Sp Tryd.prog GL 115 [.bp b 0] M mn (fun r m k => r = .tup [] ∧ m = upd M b (rd [] true) ∧ k = mn) := by
  have hb' : M b = some [.flat (.string (bs s)), .flat (.bool f)] := hb
  refine fnP (C := kc 8 [] []) (rs := []) envOk Tryd.func115 (by kernel_rfl) rfl rfl rfl rfl rfl rfl ?_
  intro E hG hM
  repeat' (first | (with_reducible first | refine pa ?_ | refine pb ?_ | refine pc ?_ | refine nxt_n ?_ | refine nxt_e ?_ | refine nxt_r ?_ | refine blk_n ?_ | refine blk_r ?_ | refine blk_hit ?_ | refine blk_miss (by rfl) ?_ | refine pd ?_ | refine pe ?_ | refine pf ?_ | refine pg ?_ | apply And.intro) | (refine hK _ ?_; clear hK K hΘ Θ) | (with_reducible first | refine cw1 ?_ | refine cw2 ?_ | exact cw3 | exact cw4) | ((with_reducible first | refine cw5 (fun gg => ?_) | refine cw6 (fun gg => ?_) | refine cw7 (fun gg => ?_)); try simp only [gg]) | refine cs1 hG rfl ?_ ?_ | refine cs2 hG rfl ?_ ?_ | ((first | refine rga hG (by kernel_rfl) (fun Θ K hΘ hK => ?_) | refine rgb hG (by kernel_rfl) (fun Θ K hΘ hK => ?_)); simp (maxSteps := 2000000) only [go_sem, seval, reduceCtorEq, hb', rd]) | ((first | refine Post.splitN (fun gg => ?_) (fun gg => ?_) | refine Post.split (fun gg => ?_) (fun gg => ?_)) <;> simp (maxSteps := 2000000) only [go_sem, seval, reduceCtorEq, gg, hb', rd]) | ((first | refine finR (by simp only [go_sem, seval, reduceCtorEq, hb', rd]; exact rfl) ?_ | refine finN (by simp only [go_sem, seval, reduceCtorEq, hb', rd]; exact rfl) ?_); simp only [go_sem, seval, reduceCtorEq, hb', rd]) | refine updL hM ?_ (by omega) | (with_reducible exact fun _ _ => rfl))
  all_goals (first | omega | (simp only [decide_eq_true_eq, decide_eq_false_iff_not] at *; omega) | (simp only [List.length_append, List.length_cons, List.length_nil] <;> omega) | exact one_bv _ | exact one_sv _ | skip)
theorem take_sp (b : Nat) (s : List UInt8) (f : Bool) (n : Nat) (M : Mem) (mn : Nat) (hb : M b = rd s f) : Sp Tryd.prog GL 114 [.bp b 0, .flat (.int .i64 n)] M mn (fun r m k => r = .flat (.string (bs (rTake n s f).1)) ∧ m = upd M b (rd (rTake n s f).2.1 (rTake n s f).2.2) ∧ k = mn) := by
  have hb' : M b = some [.flat (.string (bs s)), .flat (.bool f)] := hb
  refine fnP (C := kc 37 [] []) (rs := [.tmp 4]) envOk Tryd.func114 (by kernel_rfl) rfl rfl rfl rfl rfl rfl ?_
  intro E hG hM
  cases f
  · by_cases hn : s.length < n
    · have f1 : ((n : Int) > s.length) = True := eq_true (by omega)
      repeat' (first | (with_reducible first | refine pa ?_ | refine pb ?_ | refine pc ?_ | refine nxt_n ?_ | refine nxt_e ?_ | refine nxt_r ?_ | refine blk_n ?_ | refine blk_r ?_ | refine blk_hit ?_ | refine blk_miss (by rfl) ?_ | refine pd ?_ | refine pe ?_ | refine pf ?_ | refine pg ?_ | apply And.intro) | (refine hK _ ?_; clear hK K hΘ Θ) | (with_reducible first | refine cw1 ?_ | refine cw2 ?_ | exact cw3 | exact cw4) | ((with_reducible first | refine cw5 (fun gg => ?_) | refine cw6 (fun gg => ?_) | refine cw7 (fun gg => ?_)); try simp only [gg]) | refine cs1 hG rfl ?_ ?_ | refine cs2 hG rfl ?_ ?_ | ((first | refine kg (fail_sp b s false _ _ hb) rfl hΘ ?_ | refine rga hG (by kernel_rfl) (fun Θ K hΘ hK => ?_) | refine rgb hG (by kernel_rfl) (fun Θ K hΘ hK => ?_)); simp (maxSteps := 2000000) only [go_sem, seval, reduceCtorEq, hb', f1, rTake, hn, rd]) | ((first | refine Post.splitN (fun gg => ?_) (fun gg => ?_) | refine Post.split (fun gg => ?_) (fun gg => ?_)) <;> simp (maxSteps := 2000000) only [go_sem, seval, reduceCtorEq, gg, hb', f1, rTake, hn, rd]) | (refine finR (by simp only [go_sem, seval, reduceCtorEq, hb', f1, rTake, hn, rd]; exact rfl) ?_; simp only [go_sem, seval, reduceCtorEq, hb', f1, rTake, hn, rd]) | refine updL hM ?_ (by omega) | (with_reducible exact fun _ _ => rfl))
      all_goals (first | omega | (simp only [decide_eq_true_eq, decide_eq_false_iff_not] at *; omega) | (simp only [List.length_append, List.length_cons, List.length_nil] <;> omega) | exact one_bv _ | exact one_sv _ | skip)
    · have f1 : ((n : Int) > s.length) = False := eq_false (by omega)
      have hs2 : List.take s.length s = s := List.take_length
      repeat' (first | (with_reducible first | refine pa ?_ | refine pb ?_ | refine pc ?_ | refine nxt_n ?_ | refine nxt_e ?_ | refine nxt_r ?_ | refine blk_n ?_ | refine blk_r ?_ | refine blk_hit ?_ | refine blk_miss (by rfl) ?_ | refine pd ?_ | refine pe ?_ | refine pf ?_ | refine pg ?_ | apply And.intro) | (refine hK _ ?_; clear hK K hΘ Θ) | (with_reducible first | refine cw1 ?_ | refine cw2 ?_ | exact cw3 | exact cw4) | ((with_reducible first | refine cw5 (fun gg => ?_) | refine cw6 (fun gg => ?_) | refine cw7 (fun gg => ?_)); try simp only [gg]) | refine cs1 hG rfl ?_ ?_ | refine cs2 hG rfl ?_ ?_ | ((first | refine rga hG (by kernel_rfl) (fun Θ K hΘ hK => ?_) | refine rgb hG (by kernel_rfl) (fun Θ K hΘ hK => ?_)); simp (maxSteps := 2000000) only [go_sem, seval, reduceCtorEq, hb', f1, rTake, hn, rd, hs2]) | ((first | refine Post.splitN (fun gg => ?_) (fun gg => ?_) | refine Post.split (fun gg => ?_) (fun gg => ?_)) <;> simp (maxSteps := 2000000) only [go_sem, seval, reduceCtorEq, gg, hb', f1, rTake, hn, rd, hs2]) | (refine finR (by simp only [go_sem, seval, reduceCtorEq, hb', f1, rTake, hn, rd, hs2]; exact rfl) ?_; simp only [go_sem, seval, reduceCtorEq, hb', f1, rTake, hn, rd, hs2]) | refine updL hM ?_ (by omega) | (with_reducible exact fun _ _ => rfl))
      all_goals (first | omega | (simp only [decide_eq_true_eq, decide_eq_false_iff_not] at *; omega) | (simp only [List.length_append, List.length_cons, List.length_nil] <;> omega) | exact one_bv _ | exact one_sv _ | skip)
  · skip
    repeat' (first | (with_reducible first | refine pa ?_ | refine pb ?_ | refine pc ?_ | refine nxt_n ?_ | refine nxt_e ?_ | refine nxt_r ?_ | refine blk_n ?_ | refine blk_r ?_ | refine blk_hit ?_ | refine blk_miss (by rfl) ?_ | refine pd ?_ | refine pe ?_ | refine pf ?_ | refine pg ?_ | apply And.intro) | (refine hK _ ?_; clear hK K hΘ Θ) | (with_reducible first | refine cw1 ?_ | refine cw2 ?_ | exact cw3 | exact cw4) | ((with_reducible first | refine cw5 (fun gg => ?_) | refine cw6 (fun gg => ?_) | refine cw7 (fun gg => ?_)); try simp only [gg]) | refine cs1 hG rfl ?_ ?_ | refine cs2 hG rfl ?_ ?_ | ((first | refine kg (fail_sp b s true _ _ hb) rfl hΘ ?_ | refine rga hG (by kernel_rfl) (fun Θ K hΘ hK => ?_) | refine rgb hG (by kernel_rfl) (fun Θ K hΘ hK => ?_)); simp (maxSteps := 2000000) only [go_sem, seval, reduceCtorEq, hb', rTake, rd]) | ((first | refine Post.splitN (fun gg => ?_) (fun gg => ?_) | refine Post.split (fun gg => ?_) (fun gg => ?_)) <;> simp (maxSteps := 2000000) only [go_sem, seval, reduceCtorEq, gg, hb', rTake, rd]) | (refine finR (by simp only [go_sem, seval, reduceCtorEq, hb', rTake, rd]; exact rfl) ?_; simp only [go_sem, seval, reduceCtorEq, hb', rTake, rd]) | refine updL hM ?_ (by omega) | (with_reducible exact fun _ _ => rfl))
    all_goals (first | omega | (simp only [decide_eq_true_eq, decide_eq_false_iff_not] at *; omega) | (simp only [List.length_append, List.length_cons, List.length_nil] <;> omega) | exact one_bv _ | exact one_sv _ | skip)
theorem take_at {b : Nat} {s : List UInt8} {f : Bool} {n : Nat} {a : List UInt8} {s1 : List UInt8} {f1 : Bool} (hA : rTake n s f = (a, s1, f1)) (M : Mem) (mn : Nat) (hb : M b = rd s f) : Sp Tryd.prog GL 114 [.bp b 0, .flat (.int .i64 n)] M mn (fun r m k => r = .flat (.string (bs a)) ∧ m = upd M b (rd s1 f1) ∧ k = mn) := by
  have := take_sp b s f n M mn hb
  rw [hA] at this; exact this
theorem RdNum_sp (b : Nat) (s : List UInt8) (f : Bool) (M : Mem) (mn : Nat) (hb : M b = rd s f) : Sp Tryd.prog GL 87 [.bp b 0] M mn (fun r m k => r = .flat (.int .i64 (rNum s f).1) ∧ m = upd M b (rd (rNum s f).2.1 (rNum s f).2.2) ∧ k = mn) := by
  have hb' : M b = some [.flat (.string (bs s)), .flat (.bool f)] := hb
  refine fnP (C := kc 59 [] []) (rs := [.tmp 2]) envOk Tryd.func87 (by kernel_rfl) rfl rfl rfl rfl rfl rfl ?_
  intro E hG hM
  generalize hA : rTake 1 s f = A
  obtain ⟨a, s1, f1⟩ := A
  cases f1
  · have ha1 : 0 < a.length := by
      unfold rTake at hA
      split at hA
      · simp at hA
      · rename_i hh
        have hl : ¬ s.length < 1 := fun h => hh (.inr h)
        simp only [Prod.mk.injEq] at hA
        obtain ⟨rfl, _⟩ := hA
        rw [List.length_take]; omega
    have ha2 := eq_true ha1
    have hw0 : IntKind.i64.wrap ((a.getD 0 0).toNat : Int) = ((a.getD 0 0).toNat : Int) := wi (by omega) (by have := (a.getD 0 0).toNat_lt; omega)
    generalize hB : rTake (a.getD 0 0).toNat s1 false = B
    obtain ⟨l, s2, f2⟩ := B
    have hspec : rNum s f = if badNum l = true then (0, ([], true)) else (be l, (s2, f2)) := by
      simp only [rNum, hA, hB]
      simp
    by_cases hbad : badNum l = true
    · rw [if_pos hbad] at hspec
      by_cases c1 : 8 < l.length
      · have e1 : ((l.length : Int) > 8) = True := eq_true (by omega)
        repeat' (first | (with_reducible first | refine pa ?_ | refine pb ?_ | refine pc ?_ | refine nxt_n ?_ | refine nxt_e ?_ | refine nxt_r ?_ | refine blk_n ?_ | refine blk_r ?_ | refine blk_hit ?_ | refine blk_miss (by rfl) ?_ | refine pd ?_ | refine pe ?_ | refine pf ?_ | refine pg ?_ | apply And.intro) | (refine hK _ ?_; clear hK K hΘ Θ) | (with_reducible first | refine cw1 ?_ | refine cw2 ?_ | exact cw3 | exact cw4) | ((with_reducible first | refine cw5 (fun gg => ?_) | refine cw6 (fun gg => ?_) | refine cw7 (fun gg => ?_)); try simp only [gg]) | refine cs1 hG rfl ?_ ?_ | refine cs2 hG rfl ?_ ?_ | ((first | refine kg (take_at hA _ _ hb) rfl hΘ ?_ | refine kg (take_at hB _ _ (upd_same _ _ _)) rfl hΘ ?_ | refine kg (fail_sp b s2 f2 _ _ (upd_same _ _ _)) rfl hΘ ?_ | refine rga hG (by kernel_rfl) (fun Θ K hΘ hK => ?_) | refine rgb hG (by kernel_rfl) (fun Θ K hΘ hK => ?_)); simp (maxSteps := 2000000) only [go_sem, seval, reduceCtorEq, rd, ha2, hw0, hspec, e1]) | ((first | refine Post.splitN (fun gg => ?_) (fun gg => ?_) | refine Post.split (fun gg => ?_) (fun gg => ?_)) <;> simp (maxSteps := 2000000) only [go_sem, seval, reduceCtorEq, gg, rd, ha2, hw0, hspec, e1]) | (refine finR (by simp only [go_sem, seval, reduceCtorEq, rd, ha2, hw0, hspec, e1]; exact rfl) ?_; simp only [go_sem, seval, reduceCtorEq, rd, ha2, hw0, hspec, e1]) | refine updL hM ?_ (by omega) | (with_reducible exact fun _ _ => rfl))
        all_goals (first | omega | (simp only [decide_eq_true_eq, decide_eq_false_iff_not] at *; omega) | (simp only [List.length_append, List.length_cons, List.length_nil] <;> omega) | exact one_bv _ | exact one_sv _ | skip)
      · have e1 : ((l.length : Int) > 8) = False := eq_false (by omega)
        by_cases c2 : 0 < l.length
        · have e2 : ((l.length : Int) > 0) = True := eq_true (by omega)
          have g2 := eq_true c2
          by_cases c3 : l.getD 0 0 = 0
          · have e3 : (((l.getD 0 0).toNat : Int) = 0) = True := eq_true (by rw [c3]; rfl)
            repeat' (first | (with_reducible first | refine pa ?_ | refine pb ?_ | refine pc ?_ | refine nxt_n ?_ | refine nxt_e ?_ | refine nxt_r ?_ | refine blk_n ?_ | refine blk_r ?_ | refine blk_hit ?_ | refine blk_miss (by rfl) ?_ | refine pd ?_ | refine pe ?_ | refine pf ?_ | refine pg ?_ | apply And.intro) | (refine hK _ ?_; clear hK K hΘ Θ) | (with_reducible first | refine cw1 ?_ | refine cw2 ?_ | exact cw3 | exact cw4) | ((with_reducible first | refine cw5 (fun gg => ?_) | refine cw6 (fun gg => ?_) | refine cw7 (fun gg => ?_)); try simp only [gg]) | refine cs1 hG rfl ?_ ?_ | refine cs2 hG rfl ?_ ?_ | ((first | refine kg (take_at hA _ _ hb) rfl hΘ ?_ | refine kg (take_at hB _ _ (upd_same _ _ _)) rfl hΘ ?_ | refine kg (fail_sp b s2 f2 _ _ (upd_same _ _ _)) rfl hΘ ?_ | refine rga hG (by kernel_rfl) (fun Θ K hΘ hK => ?_) | refine rgb hG (by kernel_rfl) (fun Θ K hΘ hK => ?_)); simp (maxSteps := 2000000) only [go_sem, seval, reduceCtorEq, rd, ha2, hw0, hspec, e1, e2, e3, g2]) | ((first | refine Post.splitN (fun gg => ?_) (fun gg => ?_) | refine Post.split (fun gg => ?_) (fun gg => ?_)) <;> simp (maxSteps := 2000000) only [go_sem, seval, reduceCtorEq, gg, rd, ha2, hw0, hspec, e1, e2, e3, g2]) | (refine finR (by simp only [go_sem, seval, reduceCtorEq, rd, ha2, hw0, hspec, e1, e2, e3, g2]; exact rfl) ?_; simp only [go_sem, seval, reduceCtorEq, rd, ha2, hw0, hspec, e1, e2, e3, g2]) | refine updL hM ?_ (by omega) | (with_reducible exact fun _ _ => rfl))
            all_goals (first | omega | (simp only [decide_eq_true_eq, decide_eq_false_iff_not] at *; omega) | (simp only [List.length_append, List.length_cons, List.length_nil] <;> omega) | exact one_bv _ | exact one_sv _ | skip)
          · have e3 : (((l.getD 0 0).toNat : Int) = 0) = False := eq_false (by
              intro h; apply c3
              have : (l.getD 0 0).toNat = 0 := by omega
              exact UInt8.toNat_inj.1 (by simpa using this))
            have h4 : l.length = 8 ∧ 127 < (l.getD 0 0).toNat := by
              simp only [badNum, decide_eq_false c1, decide_eq_false c3, Bool.and_false, Bool.or_false, Bool.false_or, Bool.and_eq_true, decide_eq_true_eq] at hbad
              exact hbad
            have e4 : ((l.length : Int) = 8) = True := eq_true (by omega)
            have e5 : (((l.getD 0 0).toNat : Int) > 127) = True := eq_true (by omega)
            repeat' (first | (with_reducible first | refine pa ?_ | refine pb ?_ | refine pc ?_ | refine nxt_n ?_ | refine nxt_e ?_ | refine nxt_r ?_ | refine blk_n ?_ | refine blk_r ?_ | refine blk_hit ?_ | refine blk_miss (by rfl) ?_ | refine pd ?_ | refine pe ?_ | refine pf ?_ | refine pg ?_ | apply And.intro) | (refine hK _ ?_; clear hK K hΘ Θ) | (with_reducible first | refine cw1 ?_ | refine cw2 ?_ | exact cw3 | exact cw4) | ((with_reducible first | refine cw5 (fun gg => ?_) | refine cw6 (fun gg => ?_) | refine cw7 (fun gg => ?_)); try simp only [gg]) | refine cs1 hG rfl ?_ ?_ | refine cs2 hG rfl ?_ ?_ | ((first | refine kg (take_at hA _ _ hb) rfl hΘ ?_ | refine kg (take_at hB _ _ (upd_same _ _ _)) rfl hΘ ?_ | refine kg (fail_sp b s2 f2 _ _ (upd_same _ _ _)) rfl hΘ ?_ | refine rga hG (by kernel_rfl) (fun Θ K hΘ hK => ?_) | refine rgb hG (by kernel_rfl) (fun Θ K hΘ hK => ?_)); simp (maxSteps := 2000000) only [go_sem, seval, reduceCtorEq, rd, ha2, hw0, hspec, e1, e2, e3, e4, e5, g2]) | ((first | refine Post.splitN (fun gg => ?_) (fun gg => ?_) | refine Post.split (fun gg => ?_) (fun gg => ?_)) <;> simp (maxSteps := 2000000) only [go_sem, seval, reduceCtorEq, gg, rd, ha2, hw0, hspec, e1, e2, e3, e4, e5, g2]) | (refine finR (by simp only [go_sem, seval, reduceCtorEq, rd, ha2, hw0, hspec, e1, e2, e3, e4, e5, g2]; exact rfl) ?_; simp only [go_sem, seval, reduceCtorEq, rd, ha2, hw0, hspec, e1, e2, e3, e4, e5, g2]) | refine updL hM ?_ (by omega) | (with_reducible exact fun _ _ => rfl))
            all_goals (first | omega | (simp only [decide_eq_true_eq, decide_eq_false_iff_not] at *; omega) | (simp only [List.length_append, List.length_cons, List.length_nil] <;> omega) | exact one_bv _ | exact one_sv _ | skip)
        · exfalso
          have : badNum l = false := by simp only [badNum, decide_eq_false c2, decide_eq_false c1, decide_eq_false (show ¬ l.length = 8 by omega)]; simp
          rw [this] at hbad; cases hbad
    · have hgd : badNum l = false := by simpa using hbad
      rw [if_neg hbad] at hspec
      obtain ⟨hg1, hg2⟩ := be_good hgd
      simp only [badNum, Bool.or_eq_false_iff, Bool.and_eq_false_iff, decide_eq_false_iff_not] at hgd
      obtain ⟨⟨q1, q2⟩, q3⟩ := hgd
      have e1 : ((l.length : Int) > 8) = False := eq_false (by omega)
      have key : ((((l.length : Int) > 0) = False ∧ (((l.length : Int) = 8) = False) ∧ True ∧ True ∧ True)
          ∨ (((l.length : Int) > 0) = True ∧ ((((l.length : Int) = 8) = False) ∧ ((0 < l.length) = True) ∧ ((((l.getD 0 0).toNat : Int) = 0) = False) ∧ True))
          ∨ (((l.length : Int) > 0) = True ∧ ((((l.length : Int) = 8) = True) ∧ ((0 < l.length) = True) ∧ ((((l.getD 0 0).toNat : Int) = 0) = False) ∧ ((((l.getD 0 0).toNat : Int) > 127) = False)))) := by
        by_cases c2 : 0 < l.length
        · right
          have q2' := q2.resolve_left (fun h => h c2)
          have z1 : ((((l.getD 0 0).toNat : Int) = 0) = False) := eq_false (by
            intro h; apply q2'
            exact UInt8.toNat_inj.1 (by have h0 : (0 : UInt8).toNat = 0 := rfl; omega))
          have z2 : ((l.length : Int) > 0) = True := eq_true (by omega)
          by_cases c4 : l.length = 8
          · right
            exact ⟨z2, eq_true (by omega), eq_true c2, z1, eq_false (by have := q3.resolve_left (fun h => h c4); omega)⟩
          · left
            exact ⟨z2, eq_false (by omega), eq_true c2, z1, trivial⟩
        · left
          exact ⟨eq_false (by omega), eq_false (by omega), trivial, trivial, trivial⟩
      rcases key with ⟨k1, k2, k3, k4, k5⟩ | ⟨k1, k2, k3, k4, k5⟩ | ⟨k1, k2, k3, k4, k5⟩
      all_goals
        repeat' (first | (with_reducible first | refine pa ?_ | refine pb ?_ | refine pc ?_ | refine nxt_n ?_ | refine nxt_e ?_ | refine nxt_r ?_ | refine blk_n ?_ | refine blk_r ?_ | refine blk_hit ?_ | refine blk_miss (by rfl) ?_ | refine pd ?_ | refine pe ?_ | refine pf ?_ | refine pg ?_ | apply And.intro) | (refine hK _ ?_; clear hK K hΘ Θ) | (with_reducible first | refine cw1 ?_ | refine cw2 ?_ | exact cw3 | exact cw4) | ((with_reducible first | refine cw5 (fun gg => ?_) | refine cw6 (fun gg => ?_) | refine cw7 (fun gg => ?_)); try simp only [gg]) | refine cs1 hG rfl ?_ ?_ | refine cs2 hG rfl ?_ ?_ | ((first | refine kg (take_at hA _ _ hb) rfl hΘ ?_ | refine kg (take_at hB _ _ (upd_same _ _ _)) rfl hΘ ?_ | refine rga hG (by kernel_rfl) (fun Θ K hΘ hK => ?_) | refine rgb hG (by kernel_rfl) (fun Θ K hΘ hK => ?_)); simp (maxSteps := 2000000) only [go_sem, seval, reduceCtorEq, rd, ha2, hw0, e1, k1, k2, k3, k4, k5]) | ((first | refine Post.splitN (fun gg => ?_) (fun gg => ?_) | refine Post.split (fun gg => ?_) (fun gg => ?_)) <;> simp (maxSteps := 2000000) only [go_sem, seval, reduceCtorEq, gg, rd, ha2, hw0, e1, k1, k2, k3, k4, k5]) | (refine finR (by simp only [go_sem, seval, reduceCtorEq, rd, ha2, hw0, e1, k1, k2, k3, k4, k5]; exact rfl) ?_; simp only [go_sem, seval, reduceCtorEq, rd, ha2, hw0, e1, k1, k2, k3, k4, k5]) | refine updL hM ?_ (by omega) | (with_reducible exact fun _ _ => rfl))
        all_goals (first | omega | (simp only [decide_eq_true_eq, decide_eq_false_iff_not] at *; omega) | (simp only [List.length_append, List.length_cons, List.length_nil] <;> omega) | exact one_bv _ | exact one_sv _ | skip)
        refine WC.loopA (fun i : Nat => ⟨[(47, .flat (.int .i64 i)), (46, .flat (.int .i64 l.length)), (5, .flat (.int .i64 (be (l.take i)))), (4, .flat (.string (bs l)))], upd M b (rd s2 f2), mn⟩) (fun i => l.length - i) (fun i => i ≤ l.length) 0 (by omega) (sbs (by simp (maxSteps := 2000000) only [go_sem, seval, reduceCtorEq, List.append_eq, be, rd, List.take_zero, List.foldl_nil]) rfl rfl) ?_
        intro i hi
        by_cases h : i < l.length
        · have f1 : ((i : Int) < (l.length : Int)) = True := eq_true (by omega)
          have g1 : (i < l.length) = True := eq_true h
          have v1 := wi1 (n := i) (by omega)
          have hsn : be (l.take (i + 1)) = be (l.take i) * 256 + (l.getD i 0).toNat := by rw [take_snoc l i 0 h, be_snoc]
          have hle : be (l.take (i + 1)) ≤ be l := by
            have h1 : be l = be (l.take (i + 1)) * 256 ^ (l.drop (i + 1)).length + be (l.drop (i + 1)) := by
              rw [← be_acc]
              conv => lhs; rw [← List.take_append_drop (i + 1) l]
              simp only [be, List.foldl_append]
            have h2 : be (l.take (i + 1)) * 1 ≤ be (l.take (i + 1)) * 256 ^ (l.drop (i + 1)).length := Nat.mul_le_mul_left _ (Nat.pow_pos (by omega))
            omega
          have hb8 := (l.getD i 0).toNat_lt
          have hw1 : IntKind.i64.wrap ((l.getD i 0).toNat : Int) = ((l.getD i 0).toNat : Int) := wi (by omega) (by omega)
          have hsl : orI .i64 (shlI .i64 (be (l.take i) : Int) 8) ((l.getD i 0).toNat : Int) = ((be (l.take i) * 256 + (l.getD i 0).toNat : Nat) : Int) := shlor (be (l.take i)) (l.getD i 0).toNat (by omega) (by omega)
          repeat' (first | (with_reducible first | refine pa ?_ | refine pb ?_ | refine pc ?_ | refine nxt_n ?_ | refine nxt_e ?_ | refine nxt_r ?_ | refine blk_n ?_ | refine blk_r ?_ | refine blk_hit ?_ | refine blk_miss (by rfl) ?_ | refine pd ?_ | refine pe ?_ | refine pf ?_ | refine pg ?_ | apply And.intro) | (refine hK _ ?_; clear hK K hΘ Θ) | (with_reducible first | refine cw1 ?_ | refine cw2 ?_ | exact cw3 | exact cw4) | ((with_reducible first | refine cw5 (fun gg => ?_) | refine cw6 (fun gg => ?_) | refine cw7 (fun gg => ?_)); try simp only [gg]) | refine cs1 hG rfl ?_ ?_ | refine cs2 hG rfl ?_ ?_ | ((first | refine rga hG (by kernel_rfl) (fun Θ K hΘ hK => ?_) | refine rgb hG (by kernel_rfl) (fun Θ K hΘ hK => ?_)); simp (maxSteps := 2000000) only [go_sem, seval, reduceCtorEq, f1, g1, v1, hw1, hsl, ← hsn]) | ((first | refine Post.splitN (fun gg => ?_) (fun gg => ?_) | refine Post.split (fun gg => ?_) (fun gg => ?_)) <;> simp (maxSteps := 2000000) only [go_sem, seval, reduceCtorEq, gg, f1, g1, v1, hw1, hsl, ← hsn]) | (refine finR (by simp only [go_sem, seval, reduceCtorEq, f1, g1, v1, hw1, hsl, ← hsn]; exact rfl) ?_; simp only [go_sem, seval, reduceCtorEq, f1, g1, v1, hw1, hsl, ← hsn]) | refine updL hM ?_ (by omega) | (with_reducible exact fun _ _ => rfl))
          all_goals (first | omega | (simp only [decide_eq_true_eq, decide_eq_false_iff_not] at *; omega) | (simp only [List.length_append, List.length_cons, List.length_nil] <;> omega) | exact one_bv _ | exact one_sv _ | skip)
          exact ⟨i + 1, by omega, by omega, (sbs (by simp (maxSteps := 2000000) only [go_sem, seval, reduceCtorEq, List.append_eq]) rfl rfl)⟩
        · have f1 : ((i : Int) < (l.length : Int)) = False := eq_false (by omega)
          have hii : i = l.length := by omega
          subst hii
          repeat' (first | (with_reducible first | refine pa ?_ | refine pb ?_ | refine pc ?_ | refine nxt_n ?_ | refine nxt_e ?_ | refine nxt_r ?_ | refine blk_n ?_ | refine blk_r ?_ | refine blk_hit ?_ | refine blk_miss (by rfl) ?_ | refine pd ?_ | refine pe ?_ | refine pf ?_ | refine pg ?_ | apply And.intro) | (refine hK _ ?_; clear hK K hΘ Θ) | (with_reducible first | refine cw1 ?_ | refine cw2 ?_ | exact cw3 | exact cw4) | ((with_reducible first | refine cw5 (fun gg => ?_) | refine cw6 (fun gg => ?_) | refine cw7 (fun gg => ?_)); try simp only [gg]) | refine cs1 hG rfl ?_ ?_ | refine cs2 hG rfl ?_ ?_ | ((first | refine rga hG (by kernel_rfl) (fun Θ K hΘ hK => ?_) | refine rgb hG (by kernel_rfl) (fun Θ K hΘ hK => ?_)); simp (maxSteps := 2000000) only [go_sem, seval, reduceCtorEq, f1, hspec, List.take_length]) | ((first | refine Post.splitN (fun gg => ?_) (fun gg => ?_) | refine Post.split (fun gg => ?_) (fun gg => ?_)) <;> simp (maxSteps := 2000000) only [go_sem, seval, reduceCtorEq, gg, f1, hspec, List.take_length]) | (refine finR (by simp only [go_sem, seval, reduceCtorEq, f1, hspec, List.take_length]; exact rfl) ?_; simp only [go_sem, seval, reduceCtorEq, f1, hspec, List.take_length]) | refine updL hM ?_ (by omega) | (with_reducible exact fun _ _ => rfl))
          all_goals (first | omega | (simp only [decide_eq_true_eq, decide_eq_false_iff_not] at *; omega) | (simp only [List.length_append, List.length_cons, List.length_nil] <;> omega) | exact one_bv _ | exact one_sv _ | skip)
  · have hspec : rNum s f = (0, (s1, true)) := by simp only [rNum, hA]; simp
    repeat' (first | (with_reducible first | refine pa ?_ | refine pb ?_ | refine pc ?_ | refine nxt_n ?_ | refine nxt_e ?_ | refine nxt_r ?_ | refine blk_n ?_ | refine blk_r ?_ | refine blk_hit ?_ | refine blk_miss (by rfl) ?_ | refine pd ?_ | refine pe ?_ | refine pf ?_ | refine pg ?_ | apply And.intro) | (refine hK _ ?_; clear hK K hΘ Θ) | (with_reducible first | refine cw1 ?_ | refine cw2 ?_ | exact cw3 | exact cw4) | ((with_reducible first | refine cw5 (fun gg => ?_) | refine cw6 (fun gg => ?_) | refine cw7 (fun gg => ?_)); try simp only [gg]) | refine cs1 hG rfl ?_ ?_ | refine cs2 hG rfl ?_ ?_ | ((first | refine kg (take_at hA _ _ hb) rfl hΘ ?_ | refine rga hG (by kernel_rfl) (fun Θ K hΘ hK => ?_) | refine rgb hG (by kernel_rfl) (fun Θ K hΘ hK => ?_)); simp (maxSteps := 2000000) only [go_sem, seval, reduceCtorEq, rd, hspec]) | ((first | refine Post.splitN (fun gg => ?_) (fun gg => ?_) | refine Post.split (fun gg => ?_) (fun gg => ?_)) <;> simp (maxSteps := 2000000) only [go_sem, seval, reduceCtorEq, gg, rd, hspec]) | (refine finR (by simp only [go_sem, seval, reduceCtorEq, rd, hspec]; exact rfl) ?_; simp only [go_sem, seval, reduceCtorEq, rd, hspec]) | refine updL hM ?_ (by omega) | (with_reducible exact fun _ _ => rfl))
    all_goals (first | omega | (simp only [decide_eq_true_eq, decide_eq_false_iff_not] at *; omega) | (simp only [List.length_append, List.length_cons, List.length_nil] <;> omega) | exact one_bv _ | exact one_sv _ | skip)
theorem RdText_sp (b : Nat) (s : List UInt8) (f : Bool) (M : Mem) (mn : Nat) (hb : M b = rd s f) : Sp Tryd.prog GL 125 [.bp b 0] M mn (fun r m k => r = .flat (.string (bs (rText s f).1)) ∧ m = upd M b (rd (rText s f).2.1 (rText s f).2.2) ∧ k = mn) := by
  have hr : rTake (rNum s f).1 (rNum s f).2.1 (rNum s f).2.2 = rText s f := rfl
  refine fnP (C := kc 9 [] []) (rs := [.tmp 2]) envOk Tryd.func125 (by kernel_rfl) rfl rfl rfl rfl rfl rfl ?_
  intro E hG hM
  repeat' (first | (with_reducible first | refine pa ?_ | refine pb ?_ | refine pc ?_ | refine nxt_n ?_ | refine nxt_e ?_ | refine nxt_r ?_ | refine blk_n ?_ | refine blk_r ?_ | refine blk_hit ?_ | refine blk_miss (by rfl) ?_ | refine pd ?_ | refine pe ?_ | refine pf ?_ | refine pg ?_ | apply And.intro) | (refine hK _ ?_; clear hK K hΘ Θ) | (with_reducible first | refine cw1 ?_ | refine cw2 ?_ | exact cw3 | exact cw4) | ((with_reducible first | refine cw5 (fun gg => ?_) | refine cw6 (fun gg => ?_) | refine cw7 (fun gg => ?_)); try simp only [gg]) | refine cs1 hG rfl ?_ ?_ | refine cs2 hG rfl ?_ ?_ | ((first | refine kg (RdNum_sp b s f _ _ hb) rfl hΘ ?_ | refine kg (take_sp b _ _ _ _ _ (upd_same _ _ _)) rfl hΘ ?_ | refine rga hG (by kernel_rfl) (fun Θ K hΘ hK => ?_) | refine rgb hG (by kernel_rfl) (fun Θ K hΘ hK => ?_)); simp (maxSteps := 2000000) only [go_sem, seval, reduceCtorEq, hr]) | ((first | refine Post.splitN (fun gg => ?_) (fun gg => ?_) | refine Post.split (fun gg => ?_) (fun gg => ?_)) <;> simp (maxSteps := 2000000) only [go_sem, seval, reduceCtorEq, gg, hr]) | (refine finR (by simp only [go_sem, seval, reduceCtorEq, hr]; exact rfl) ?_; simp only [go_sem, seval, reduceCtorEq, hr]) | refine updL hM ?_ (by omega) | (with_reducible exact fun _ _ => rfl))
  all_goals (first | omega | (simp only [decide_eq_true_eq, decide_eq_false_iff_not] at *; omega) | (simp only [List.length_append, List.length_cons, List.length_nil] <;> omega) | exact one_bv _ | exact one_sv _ | skip)
theorem End_sp (b : Nat) (s : List UInt8) (f : Bool) (M : Mem) (mn : Nat) (hb : M b = rd s f) : Sp Tryd.prog GL 88 [.bp b 0] M mn (fun r m k => r = .flat (.int .i64 (rEnd s f)) ∧ m = M ∧ k = mn) := by
  have hb' : M b = some [.flat (.string (bs s)), .flat (.bool f)] := hb
  refine fnP (C := kc 18 [] []) (rs := [.tmp 2]) envOk Tryd.func88 (by kernel_rfl) rfl rfl rfl rfl rfl rfl ?_
  intro E hG hM
  cases f
  · by_cases hs : s = []
    · subst hs
      have e : rEnd [] false = 0 := rfl
      repeat' (first | (with_reducible first | refine pa ?_ | refine pb ?_ | refine pc ?_ | refine nxt_n ?_ | refine nxt_e ?_ | refine nxt_r ?_ | refine blk_n ?_ | refine blk_r ?_ | refine blk_hit ?_ | refine blk_miss (by rfl) ?_ | refine pd ?_ | refine pe ?_ | refine pf ?_ | refine pg ?_ | apply And.intro) | (refine hK _ ?_; clear hK K hΘ Θ) | (with_reducible first | refine cw1 ?_ | refine cw2 ?_ | exact cw3 | exact cw4) | ((with_reducible first | refine cw5 (fun gg => ?_) | refine cw6 (fun gg => ?_) | refine cw7 (fun gg => ?_)); try simp only [gg]) | refine cs1 hG rfl ?_ ?_ | refine cs2 hG rfl ?_ ?_ | ((first | refine rga hG (by kernel_rfl) (fun Θ K hΘ hK => ?_) | refine rgb hG (by kernel_rfl) (fun Θ K hΘ hK => ?_)); simp (maxSteps := 2000000) only [go_sem, seval, reduceCtorEq, hb', e]) | ((first | refine Post.splitN (fun gg => ?_) (fun gg => ?_) | refine Post.split (fun gg => ?_) (fun gg => ?_)) <;> simp (maxSteps := 2000000) only [go_sem, seval, reduceCtorEq, gg, hb', e]) | (refine finR (by simp only [go_sem, seval, reduceCtorEq, hb', e]; exact rfl) ?_; simp only [go_sem, seval, reduceCtorEq, hb', e]) | refine updL hM ?_ (by omega) | (with_reducible exact fun _ _ => rfl))
      all_goals (first | omega | (simp only [decide_eq_true_eq, decide_eq_false_iff_not] at *; omega) | (simp only [List.length_append, List.length_cons, List.length_nil] <;> omega) | exact one_bv _ | exact one_sv _ | skip)
    · have e : rEnd s false = 4 := by simp [rEnd, hs]
      have hs' : (s = []) = False := eq_false hs
      repeat' (first | (with_reducible first | refine pa ?_ | refine pb ?_ | refine pc ?_ | refine nxt_n ?_ | refine nxt_e ?_ | refine nxt_r ?_ | refine blk_n ?_ | refine blk_r ?_ | refine blk_hit ?_ | refine blk_miss (by rfl) ?_ | refine pd ?_ | refine pe ?_ | refine pf ?_ | refine pg ?_ | apply And.intro) | (refine hK _ ?_; clear hK K hΘ Θ) | (with_reducible first | refine cw1 ?_ | refine cw2 ?_ | exact cw3 | exact cw4) | ((with_reducible first | refine cw5 (fun gg => ?_) | refine cw6 (fun gg => ?_) | refine cw7 (fun gg => ?_)); try simp only [gg]) | refine cs1 hG rfl ?_ ?_ | refine cs2 hG rfl ?_ ?_ | ((first | refine rga hG (by kernel_rfl) (fun Θ K hΘ hK => ?_) | refine rgb hG (by kernel_rfl) (fun Θ K hΘ hK => ?_)); simp (maxSteps := 2000000) only [go_sem, seval, reduceCtorEq, hb', hs', e]) | ((first | refine Post.splitN (fun gg => ?_) (fun gg => ?_) | refine Post.split (fun gg => ?_) (fun gg => ?_)) <;> simp (maxSteps := 2000000) only [go_sem, seval, reduceCtorEq, gg, hb', hs', e]) | (refine finR (by simp only [go_sem, seval, reduceCtorEq, hb', hs', e]; exact rfl) ?_; simp only [go_sem, seval, reduceCtorEq, hb', hs', e]) | refine updL hM ?_ (by omega) | (with_reducible exact fun _ _ => rfl))
      all_goals (first | omega | (simp only [decide_eq_true_eq, decide_eq_false_iff_not] at *; omega) | (simp only [List.length_append, List.length_cons, List.length_nil] <;> omega) | exact one_bv _ | exact one_sv _ | skip)
  · have e : rEnd s true = 4 := by simp [rEnd]
    repeat' (first | (with_reducible first | refine pa ?_ | refine pb ?_ | refine pc ?_ | refine nxt_n ?_ | refine nxt_e ?_ | refine nxt_r ?_ | refine blk_n ?_ | refine blk_r ?_ | refine blk_hit ?_ | refine blk_miss (by rfl) ?_ | refine pd ?_ | refine pe ?_ | refine pf ?_ | refine pg ?_ | apply And.intro) | (refine hK _ ?_; clear hK K hΘ Θ) | (with_reducible first | refine cw1 ?_ | refine cw2 ?_ | exact cw3 | exact cw4) | ((with_reducible first | refine cw5 (fun gg => ?_) | refine cw6 (fun gg => ?_) | refine cw7 (fun gg => ?_)); try simp only [gg]) | refine cs1 hG rfl ?_ ?_ | refine cs2 hG rfl ?_ ?_ | ((first | refine rga hG (by kernel_rfl) (fun Θ K hΘ hK => ?_) | refine rgb hG (by kernel_rfl) (fun Θ K hΘ hK => ?_)); simp (maxSteps := 2000000) only [go_sem, seval, reduceCtorEq, hb', e]) | ((first | refine Post.splitN (fun gg => ?_) (fun gg => ?_) | refine Post.split (fun gg => ?_) (fun gg => ?_)) <;> simp (maxSteps := 2000000) only [go_sem, seval, reduceCtorEq, gg, hb', e]) | (refine finR (by simp only [go_sem, seval, reduceCtorEq, hb', e]; exact rfl) ?_; simp only [go_sem, seval, reduceCtorEq, hb', e]) | refine updL hM ?_ (by omega) | (with_reducible exact fun _ _ => rfl))
    all_goals (first | omega | (simp only [decide_eq_true_eq, decide_eq_false_iff_not] at *; omega) | (simp only [List.length_append, List.length_cons, List.length_nil] <;> omega) | exact one_bv _ | exact one_sv _ | skip)
end Go.VL

set_option linter.unusedVariables false
set_option linter.unusedSimpArgs false
set_option maxRecDepth 100000
set_option maxHeartbeats 8000000
open Go.RowKit
namespace Go.VL
open Go.Proofs
theorem num_at {b : Nat} {s : List UInt8} {f : Bool} {n : Nat} {s1 : List UInt8} {f1 : Bool} (hA : rNum s f = (n, s1, f1)) (M : Mem) (mn : Nat) (hb : M b = rd s f) : Sp Tryd.prog GL 87 [.bp b 0] M mn (fun r m k => r = .flat (.int .i64 n) ∧ m = upd M b (rd s1 f1) ∧ k = mn) := by
  have := RdNum_sp b s f M mn hb
  rw [hA] at this; exact this
theorem RdList_sp (b : Nat) (s : List UInt8) (f : Bool) (M : Mem) (mn : Nat) (hb : M b = rd s f) : Sp Tryd.prog GL 113 [.bp b 0] M mn (fun r m k => r = .sl false 1 (rList s f).1.length (sv (rList s f).1) ∧ m = upd M b (rd (rList s f).2.1 (rList s f).2.2) ∧ k = mn) := by
  generalize hA : rNum s f = A
  obtain ⟨n, s1, f1⟩ := A
  have hlt : n < 9223372036854775808 := by have := rNum_lt s f; rw [hA] at this; exact this
  by_cases h4 : 4096 < n
  · have hr : rList s f = ([], ([], true)) := by simp [rList, rStart, hA, h4, rTexts_stop]
    have e1 : ((n : Int) > 4096) = True := eq_true (by omega)
    have e2 : ((0 : Int) < n) = True := eq_true (by omega)
    have e0 : sv [] = [] := rfl
    rw [hr]
    refine fnPS (C := kc 36 [26] []) (rs := [.tmp 2]) envOk Tryd.func113 (by kernel_rfl) rfl rfl rfl rfl rfl rfl ?_
    intro E hG hM
    repeat' (first | (with_reducible first | refine pa ?_ | refine pb ?_ | refine pc ?_ | refine nxt_n ?_ | refine nxt_e ?_ | refine nxt_r ?_ | refine blk_n ?_ | refine blk_r ?_ | refine blk_hit ?_ | refine blk_miss (by rfl) ?_ | refine pd ?_ | refine pe ?_ | refine pf ?_ | refine pg ?_ | apply And.intro) | (refine hK _ ?_; clear hK K hΘ Θ) | (with_reducible first | refine cw1 ?_ | refine cw2 ?_ | exact cw3 | exact cw4) | ((with_reducible first | refine cw5 (fun gg => ?_) | refine cw6 (fun gg => ?_) | refine cw7 (fun gg => ?_)); try simp only [gg]) | refine cs1 hG rfl ?_ ?_ | refine cs2 hG rfl ?_ ?_ | ((first | refine kg (num_at hA _ _ hb) rfl hΘ ?_ | refine kg (fail_sp b s1 f1 _ _ (upd_same _ _ _)) rfl hΘ ?_ | refine rga hG (by kernel_rfl) (fun Θ K hΘ hK => ?_) | refine rgb hG (by kernel_rfl) (fun Θ K hΘ hK => ?_)); simp (maxSteps := 2000000) only [go_sem, seval, reduceCtorEq, List.append_eq, rd, e1]) | ((first | refine Post.splitN (fun gg => ?_) (fun gg => ?_) | refine Post.split (fun gg => ?_) (fun gg => ?_)) <;> simp (maxSteps := 2000000) only [go_sem, seval, reduceCtorEq, List.append_eq, gg, rd, e1]) | (refine finR (by simp only [go_sem, seval, reduceCtorEq, List.append_eq, rd, e1]; exact rfl) ?_; simp only [go_sem, seval, reduceCtorEq, List.append_eq, rd, e1]) | refine updL hM ?_ (by omega) | (with_reducible exact fun _ _ => rfl))
    all_goals (first | omega | (simp only [decide_eq_true_eq, decide_eq_false_iff_not] at *; omega) | (simp only [List.length_append, List.length_cons, List.length_nil] <;> omega) | exact one_bv _ | exact one_sv _ | skip)
    refine WC.loopA (fun _ : Unit => ⟨[(5, .flat (.int .i64 0)), (4, .sl true 1 0 []), (3, .flat (.int .i64 n)), (0, .bp b 0)], upd M b (rd [] true), mn⟩) (fun _ => 0) (fun _ => True) () trivial (sbs (by simp (maxSteps := 2000000) only [go_sem, seval, reduceCtorEq, List.append_eq, rd]) rfl rfl) ?_
    intro _ _
    repeat' (first | (with_reducible first | refine pa ?_ | refine pb ?_ | refine pc ?_ | refine nxt_n ?_ | refine nxt_e ?_ | refine nxt_r ?_ | refine blk_n ?_ | refine blk_r ?_ | refine blk_hit ?_ | refine blk_miss (by rfl) ?_ | refine pd ?_ | refine pe ?_ | refine pf ?_ | refine pg ?_ | apply And.intro) | (refine hK _ ?_; clear hK K hΘ Θ) | (with_reducible first | refine cw1 ?_ | refine cw2 ?_ | exact cw3 | exact cw4) | ((with_reducible first | refine cw5 (fun gg => ?_) | refine cw6 (fun gg => ?_) | refine cw7 (fun gg => ?_)); try simp only [gg]) | refine cs1 hG rfl ?_ ?_ | refine cs2 hG rfl ?_ ?_ | ((first | refine rga hG (by kernel_rfl) (fun Θ K hΘ hK => ?_) | refine rgb hG (by kernel_rfl) (fun Θ K hΘ hK => ?_)); simp (maxSteps := 2000000) only [go_sem, seval, reduceCtorEq, List.append_eq, rd, e2, e0]) | ((first | refine Post.splitN (fun gg => ?_) (fun gg => ?_) | refine Post.split (fun gg => ?_) (fun gg => ?_)) <;> simp (maxSteps := 2000000) only [go_sem, seval, reduceCtorEq, List.append_eq, gg, rd, e2, e0]) | (refine finR (by simp only [go_sem, seval, reduceCtorEq, List.append_eq, rd, e2, e0]; exact rfl) ?_; simp only [go_sem, seval, reduceCtorEq, List.append_eq, rd, e2, e0]) | refine updL hM ?_ (by omega) | (with_reducible exact fun _ _ => rfl))
    all_goals (first | omega | (simp only [decide_eq_true_eq, decide_eq_false_iff_not] at *; omega) | (simp only [List.length_append, List.length_cons, List.length_nil] <;> omega) | exact one_bv _ | exact one_sv _ | skip)
  · have e1 : ((n : Int) > 4096) = False := eq_false (by omega)
    have hst : rStart s f = (s1, f1) := by simp [rStart, hA, h4]
    have hrl : rList s f = if (rTexts n s1 f1).2.2 = true then ([], (rTexts n s1 f1).2) else rTexts n s1 f1 := by simp only [rList, hst, hA]
    generalize hR : rList s f = R at *
    refine fnPS (C := kc 36 [26] []) (rs := [.tmp 2]) envOk Tryd.func113 (by kernel_rfl) rfl rfl rfl rfl rfl rfl ?_
    intro E hG hM
    repeat' (first | (with_reducible first | refine pa ?_ | refine pb ?_ | refine pc ?_ | refine nxt_n ?_ | refine nxt_e ?_ | refine nxt_r ?_ | refine blk_n ?_ | refine blk_r ?_ | refine blk_hit ?_ | refine blk_miss (by rfl) ?_ | refine pd ?_ | refine pe ?_ | refine pf ?_ | refine pg ?_ | apply And.intro) | (refine hK _ ?_; clear hK K hΘ Θ) | (with_reducible first | refine cw1 ?_ | refine cw2 ?_ | exact cw3 | exact cw4) | ((with_reducible first | refine cw5 (fun gg => ?_) | refine cw6 (fun gg => ?_) | refine cw7 (fun gg => ?_)); try simp only [gg]) | refine cs1 hG rfl ?_ ?_ | refine cs2 hG rfl ?_ ?_ | ((first | refine kg (num_at hA _ _ hb) rfl hΘ ?_ | refine rga hG (by kernel_rfl) (fun Θ K hΘ hK => ?_) | refine rgb hG (by kernel_rfl) (fun Θ K hΘ hK => ?_)); simp (maxSteps := 2000000) only [go_sem, seval, reduceCtorEq, List.append_eq, rd, e1]) | ((first | refine Post.splitN (fun gg => ?_) (fun gg => ?_) | refine Post.split (fun gg => ?_) (fun gg => ?_)) <;> simp (maxSteps := 2000000) only [go_sem, seval, reduceCtorEq, List.append_eq, gg, rd, e1]) | (refine finR (by simp only [go_sem, seval, reduceCtorEq, List.append_eq, rd, e1]; exact rfl) ?_; simp only [go_sem, seval, reduceCtorEq, List.append_eq, rd, e1]) | refine updL hM ?_ (by omega) | (with_reducible exact fun _ _ => rfl))
    all_goals (first | omega | (simp only [decide_eq_true_eq, decide_eq_false_iff_not] at *; omega) | (simp only [List.length_append, List.length_cons, List.length_nil] <;> omega) | exact one_bv _ | exact one_sv _ | skip)
    refine WC.loopA (fun q : Nat × List (List UInt8) × List UInt8 × Bool => ⟨[(5, .flat (.int .i64 q.1)), (4, .sl true 1 q.1 (sv q.2.1)), (3, .flat (.int .i64 n)), (0, .bp b 0)], upd M b (rd q.2.2.1 q.2.2.2), mn⟩) (fun q => n - q.1) (fun q => q.1 ≤ n ∧ q.2.1.length = q.1 ∧ rTexts n s1 f1 = (q.2.1 ++ (rTexts (n - q.1) q.2.2.1 q.2.2.2).1, (rTexts (n - q.1) q.2.2.1 q.2.2.2).2)) (0, [], s1, f1) ⟨by simp only; omega, rfl, by simp⟩ (sbs (by simp (maxSteps := 2000000) only [go_sem, seval, reduceCtorEq, List.append_eq, rd, sv, List.map_nil]) rfl rfl) ?_
    rintro ⟨i, out, s', f'⟩ ⟨hi, hol, hsp⟩
    simp only at hi hol hsp ⊢
    cases f'
    · by_cases h : i < n
      · have g1 : ((i : Int) < (n : Int)) = True := eq_true (by omega)
        have v1 := wi1 (n := i) (by omega)
        have hsn := sv_snoc out (rText s' false).1
        repeat' (first | (with_reducible first | refine pa ?_ | refine pb ?_ | refine pc ?_ | refine nxt_n ?_ | refine nxt_e ?_ | refine nxt_r ?_ | refine blk_n ?_ | refine blk_r ?_ | refine blk_hit ?_ | refine blk_miss (by rfl) ?_ | refine pd ?_ | refine pe ?_ | refine pf ?_ | refine pg ?_ | apply And.intro) | (refine hK _ ?_; clear hK K hΘ Θ) | (with_reducible first | refine cw1 ?_ | refine cw2 ?_ | exact cw3 | exact cw4) | ((with_reducible first | refine cw5 (fun gg => ?_) | refine cw6 (fun gg => ?_) | refine cw7 (fun gg => ?_)); try simp only [gg]) | refine cs1 hG rfl ?_ ?_ | refine cs2 hG rfl ?_ ?_ | ((first | refine kg (RdText_sp b s' false _ _ (upd_same _ _ _)) rfl hΘ ?_ | refine rga hG (by kernel_rfl) (fun Θ K hΘ hK => ?_) | refine rgb hG (by kernel_rfl) (fun Θ K hΘ hK => ?_)); simp (maxSteps := 2000000) only [go_sem, seval, reduceCtorEq, List.append_eq, rd, g1, v1, hsn]) | ((first | refine Post.splitN (fun gg => ?_) (fun gg => ?_) | refine Post.split (fun gg => ?_) (fun gg => ?_)) <;> simp (maxSteps := 2000000) only [go_sem, seval, reduceCtorEq, List.append_eq, gg, rd, g1, v1, hsn]) | (refine finR (by simp only [go_sem, seval, reduceCtorEq, List.append_eq, rd, g1, v1, hsn]; exact rfl) ?_; simp only [go_sem, seval, reduceCtorEq, List.append_eq, rd, g1, v1, hsn]) | refine updL hM ?_ (by omega) | (with_reducible exact fun _ _ => rfl))
        all_goals (first | omega | (simp only [decide_eq_true_eq, decide_eq_false_iff_not] at *; omega) | (simp only [List.length_append, List.length_cons, List.length_nil] <;> omega) | exact one_bv _ | exact one_sv _ | skip)
        refine ⟨(i + 1, out ++ [(rText s' false).1], (rText s' false).2.1, (rText s' false).2.2), ⟨by simp only; omega, by simp [hol], ?_⟩, by simp only; omega, (sbs (by simp (maxSteps := 2000000) only [go_sem, seval, reduceCtorEq, List.append_eq, rd]) rfl rfl)⟩
        simp only
        rw [hsp, show n - i = (n - (i + 1)) + 1 by omega, rTexts]
        simp
      · have g1 : ((i : Int) < (n : Int)) = False := eq_false (by omega)
        have hin : n - i = 0 := by omega
        rw [hin, rTexts] at hsp
        rw [hsp] at hrl
        simp only [List.append_nil, Bool.false_eq_true, if_false] at hrl
        rw [hrl]
        simp only [hol]
        repeat' (first | (with_reducible first | refine pa ?_ | refine pb ?_ | refine pc ?_ | refine nxt_n ?_ | refine nxt_e ?_ | refine nxt_r ?_ | refine blk_n ?_ | refine blk_r ?_ | refine blk_hit ?_ | refine blk_miss (by rfl) ?_ | refine pd ?_ | refine pe ?_ | refine pf ?_ | refine pg ?_ | apply And.intro) | (refine hK _ ?_; clear hK K hΘ Θ) | (with_reducible first | refine cw1 ?_ | refine cw2 ?_ | exact cw3 | exact cw4) | ((with_reducible first | refine cw5 (fun gg => ?_) | refine cw6 (fun gg => ?_) | refine cw7 (fun gg => ?_)); try simp only [gg]) | refine cs1 hG rfl ?_ ?_ | refine cs2 hG rfl ?_ ?_ | ((first | refine rga hG (by kernel_rfl) (fun Θ K hΘ hK => ?_) | refine rgb hG (by kernel_rfl) (fun Θ K hΘ hK => ?_)); simp (maxSteps := 2000000) only [go_sem, seval, reduceCtorEq, List.append_eq, rd, g1]) | ((first | refine Post.splitN (fun gg => ?_) (fun gg => ?_) | refine Post.split (fun gg => ?_) (fun gg => ?_)) <;> simp (maxSteps := 2000000) only [go_sem, seval, reduceCtorEq, List.append_eq, gg, rd, g1]) | (refine finR (by simp only [go_sem, seval, reduceCtorEq, List.append_eq, rd, g1]; exact rfl) ?_; simp only [go_sem, seval, reduceCtorEq, List.append_eq, rd, g1]) | refine updL hM ?_ (by omega) | (with_reducible exact fun _ _ => rfl))
        all_goals (first | omega | (simp only [decide_eq_true_eq, decide_eq_false_iff_not] at *; omega) | (simp only [List.length_append, List.length_cons, List.length_nil] <;> omega) | exact one_bv _ | exact one_sv _ | skip)
    · have hbad : R = ([], (s', true)) := by
        rw [hsp, rTexts_stop] at hrl
        simpa using hrl
      have e0 : sv [] = [] := rfl
      rw [hbad]
      by_cases h : i < n
      · have g1 : ((i : Int) < (n : Int)) = True := eq_true (by omega)
        repeat' (first | (with_reducible first | refine pa ?_ | refine pb ?_ | refine pc ?_ | refine nxt_n ?_ | refine nxt_e ?_ | refine nxt_r ?_ | refine blk_n ?_ | refine blk_r ?_ | refine blk_hit ?_ | refine blk_miss (by rfl) ?_ | refine pd ?_ | refine pe ?_ | refine pf ?_ | refine pg ?_ | apply And.intro) | (refine hK _ ?_; clear hK K hΘ Θ) | (with_reducible first | refine cw1 ?_ | refine cw2 ?_ | exact cw3 | exact cw4) | ((with_reducible first | refine cw5 (fun gg => ?_) | refine cw6 (fun gg => ?_) | refine cw7 (fun gg => ?_)); try simp only [gg]) | refine cs1 hG rfl ?_ ?_ | refine cs2 hG rfl ?_ ?_ | ((first | refine rga hG (by kernel_rfl) (fun Θ K hΘ hK => ?_) | refine rgb hG (by kernel_rfl) (fun Θ K hΘ hK => ?_)); simp (maxSteps := 2000000) only [go_sem, seval, reduceCtorEq, List.append_eq, rd, g1, e0]) | ((first | refine Post.splitN (fun gg => ?_) (fun gg => ?_) | refine Post.split (fun gg => ?_) (fun gg => ?_)) <;> simp (maxSteps := 2000000) only [go_sem, seval, reduceCtorEq, List.append_eq, gg, rd, g1, e0]) | (refine finR (by simp only [go_sem, seval, reduceCtorEq, List.append_eq, rd, g1, e0]; exact rfl) ?_; simp only [go_sem, seval, reduceCtorEq, List.append_eq, rd, g1, e0]) | refine updL hM ?_ (by omega) | (with_reducible exact fun _ _ => rfl))
        all_goals (first | omega | (simp only [decide_eq_true_eq, decide_eq_false_iff_not] at *; omega) | (simp only [List.length_append, List.length_cons, List.length_nil] <;> omega) | exact one_bv _ | exact one_sv _ | skip)
      · have g1 : ((i : Int) < (n : Int)) = False := eq_false (by omega)
        repeat' (first | (with_reducible first | refine pa ?_ | refine pb ?_ | refine pc ?_ | refine nxt_n ?_ | refine nxt_e ?_ | refine nxt_r ?_ | refine blk_n ?_ | refine blk_r ?_ | refine blk_hit ?_ | refine blk_miss (by rfl) ?_ | refine pd ?_ | refine pe ?_ | refine pf ?_ | refine pg ?_ | apply And.intro) | (refine hK _ ?_; clear hK K hΘ Θ) | (with_reducible first | refine cw1 ?_ | refine cw2 ?_ | exact cw3 | exact cw4) | ((with_reducible first | refine cw5 (fun gg => ?_) | refine cw6 (fun gg => ?_) | refine cw7 (fun gg => ?_)); try simp only [gg]) | refine cs1 hG rfl ?_ ?_ | refine cs2 hG rfl ?_ ?_ | ((first | refine rga hG (by kernel_rfl) (fun Θ K hΘ hK => ?_) | refine rgb hG (by kernel_rfl) (fun Θ K hΘ hK => ?_)); simp (maxSteps := 2000000) only [go_sem, seval, reduceCtorEq, List.append_eq, rd, g1, e0]) | ((first | refine Post.splitN (fun gg => ?_) (fun gg => ?_) | refine Post.split (fun gg => ?_) (fun gg => ?_)) <;> simp (maxSteps := 2000000) only [go_sem, seval, reduceCtorEq, List.append_eq, gg, rd, g1, e0]) | (refine finR (by simp only [go_sem, seval, reduceCtorEq, List.append_eq, rd, g1, e0]; exact rfl) ?_; simp only [go_sem, seval, reduceCtorEq, List.append_eq, rd, g1, e0]) | refine updL hM ?_ (by omega) | (with_reducible exact fun _ _ => rfl))
        all_goals (first | omega | (simp only [decide_eq_true_eq, decide_eq_false_iff_not] at *; omega) | (simp only [List.length_append, List.length_cons, List.length_nil] <;> omega) | exact one_bv _ | exact one_sv _ | skip)
theorem Split_sp (s : List UInt8) : Rt 85 [.flat (.string (bs s))] (.tup [.sl false 1 (sR s).length (sv (sR s)), .flat (.int .i64 (sE s))]) := by
  have he : rEnd (sL s).2.1 (sL s).2.2 = sE s := rfl
  have hl : rList s (decide ((s.length : Int) > 262144)) = sL s := rfl
  intro M mn
  refine fnLS (C := kc 17 [] []) (rs := [.tmp 2, .tmp 3]) envOk Tryd.func85 (by kernel_rfl) rfl rfl rfl rfl rfl rfl (lowTup (lowC1 (lowSl (FlatS.sv _)) (lowC1 (Low.flat _) lowC0))) ?_
  intro E hG hM
  by_cases hu : sE s = 0
  · have hr : sR s = (sL s).1 := by simp only [sR, if_pos hu]
    have f1 := eq_true hu
    repeat' (first | (with_reducible first | refine pa ?_ | refine pb ?_ | refine pc ?_ | refine nxt_n ?_ | refine nxt_e ?_ | refine nxt_r ?_ | refine blk_n ?_ | refine blk_r ?_ | refine blk_hit ?_ | refine blk_miss (by rfl) ?_ | refine pd ?_ | refine pe ?_ | refine pf ?_ | refine pg ?_ | apply And.intro) | (refine hK _ ?_; clear hK K hΘ Θ) | (with_reducible first | refine cw1 ?_ | refine cw2 ?_ | exact cw3 | exact cw4) | ((with_reducible first | refine cw5 (fun gg => ?_) | refine cw6 (fun gg => ?_) | refine cw7 (fun gg => ?_)); try simp only [gg]) | refine cs1 hG rfl ?_ ?_ | refine cs2 hG rfl ?_ ?_ | ((first | refine kg (Open_sp s _ _) rfl hΘ ?_ | refine kg (RdList_sp mn s _ _ _ (upd_same _ _ _)) rfl hΘ ?_ | refine kg (End_sp mn _ _ _ _ (upd_same _ _ _)) rfl hΘ ?_ | refine rga hG (by kernel_rfl) (fun Θ K hΘ hK => ?_) | refine rgb hG (by kernel_rfl) (fun Θ K hΘ hK => ?_)); simp (maxSteps := 2000000) only [go_sem, seval, reduceCtorEq, rd, hl, he, f1, hr, hu]) | ((first | refine Post.splitN (fun gg => ?_) (fun gg => ?_) | refine Post.split (fun gg => ?_) (fun gg => ?_)) <;> simp (maxSteps := 2000000) only [go_sem, seval, reduceCtorEq, gg, rd, hl, he, f1, hr, hu]) | (refine finR (by simp only [go_sem, seval, reduceCtorEq, rd, hl, he, f1, hr, hu]; exact rfl) ?_; simp only [go_sem, seval, reduceCtorEq, rd, hl, he, f1, hr, hu]) | refine updL hM ?_ (by omega) | (with_reducible exact fun _ _ => rfl))
    all_goals (first | omega | (simp only [decide_eq_true_eq, decide_eq_false_iff_not] at *; omega) | (simp only [List.length_append, List.length_cons, List.length_nil] <;> omega) | exact one_bv _ | exact one_sv _ | skip)
  · have hr : sR s = [] := by simp only [sR, if_neg hu]
    have f1 := eq_false hu
    have e0 : sv [] = [] := rfl
    repeat' (first | (with_reducible first | refine pa ?_ | refine pb ?_ | refine pc ?_ | refine nxt_n ?_ | refine nxt_e ?_ | refine nxt_r ?_ | refine blk_n ?_ | refine blk_r ?_ | refine blk_hit ?_ | refine blk_miss (by rfl) ?_ | refine pd ?_ | refine pe ?_ | refine pf ?_ | refine pg ?_ | apply And.intro) | (refine hK _ ?_; clear hK K hΘ Θ) | (with_reducible first | refine cw1 ?_ | refine cw2 ?_ | exact cw3 | exact cw4) | ((with_reducible first | refine cw5 (fun gg => ?_) | refine cw6 (fun gg => ?_) | refine cw7 (fun gg => ?_)); try simp only [gg]) | refine cs1 hG rfl ?_ ?_ | refine cs2 hG rfl ?_ ?_ | ((first | refine kg (Open_sp s _ _) rfl hΘ ?_ | refine kg (RdList_sp mn s _ _ _ (upd_same _ _ _)) rfl hΘ ?_ | refine kg (End_sp mn _ _ _ _ (upd_same _ _ _)) rfl hΘ ?_ | refine rga hG (by kernel_rfl) (fun Θ K hΘ hK => ?_) | refine rgb hG (by kernel_rfl) (fun Θ K hΘ hK => ?_)); simp (maxSteps := 2000000) only [go_sem, seval, reduceCtorEq, rd, hl, he, f1, hr, e0]) | ((first | refine Post.splitN (fun gg => ?_) (fun gg => ?_) | refine Post.split (fun gg => ?_) (fun gg => ?_)) <;> simp (maxSteps := 2000000) only [go_sem, seval, reduceCtorEq, gg, rd, hl, he, f1, hr, e0]) | (refine finR (by simp only [go_sem, seval, reduceCtorEq, rd, hl, he, f1, hr, e0]; exact rfl) ?_; simp only [go_sem, seval, reduceCtorEq, rd, hl, he, f1, hr, e0]) | refine updL hM ?_ (by omega) | (with_reducible exact fun _ _ => rfl))
    all_goals (first | omega | (simp only [decide_eq_true_eq, decide_eq_false_iff_not] at *; omega) | (simp only [List.length_append, List.length_cons, List.length_nil] <;> omega) | exact one_bv _ | exact one_sv _ | skip)
end Go.VL

set_option linter.unusedVariables false
set_option linter.unusedSimpArgs false
set_option maxRecDepth 100000
set_option maxHeartbeats 8000000
open Go.RowKit
namespace Go.VL
open Go.Proofs
theorem sv_c (x : List UInt8) (l : List (List UInt8)) : sv (x :: l) = .flat (.string (bs x)) :: sv l := rfl
theorem sv_n : sv [] = [] := rfl
end Go.VL

set_option linter.unusedVariables false
set_option linter.unusedSimpArgs false
set_option maxRecDepth 100000
set_option maxHeartbeats 8000000
open Go.RowKit
namespace Go.VL
open Go.Proofs
theorem EGood_sp (e : Ent) (he : e.ok) : Rt 82 [.agg e.c] (.flat (.bool e.good)) := by
  have hd := he.2.1
  obtain ⟨i1, i2, i3, i4, i5, i6, i7⟩ := id he
  have hin : ∀ n : Int, 0 ≤ n → n ≤ 3 → inR n := fun n _ _ => ⟨by omega, by omega⟩
  have okD : (entD e.d).ok := ⟨hin 1 (by omega) (by omega), hd, hin 0 (by omega) (by omega), hin 0 (by omega) (by omega), hin 0 (by omega) (by omega), by simp [entD, ent0], by simp [entD, ent0]⟩
  have okO : (entO e.mask e.pay).ok := ⟨hin 3 (by omega) (by omega), dr0_ok, hin 0 (by omega) (by omega), hin 0 (by omega) (by omega), i5, i6, by simp [entO, ent0]⟩
  have f0 := Dr.fit dr0 dr0_ok
  have f1 := Ent.fit e he
  have f2 := Ent.fit _ okD
  have f3 := Ent.fit _ okO
  have f4 := Dr.fit _ hd
  have hD : ({ kind := 1, d := e.d, from_ := ent0.from_, seq := ent0.seq, prev := ent0.prev, mask := ent0.mask, pay := ent0.pay, sig := ent0.sig } : Ent) = entD e.d := rfl
  have hO : ({ kind := 3, d := ent0.d, from_ := ent0.from_, seq := ent0.seq, prev := ent0.prev, mask := e.mask, pay := e.pay, sig := ent0.sig } : Ent) = entO e.mask e.pay := rfl
  intro M mn
  refine fnL (C := kc 74 [] []) (rs := [.tmp 2]) envOk Tryd.func82 (by kernel_rfl) rfl rfl rfl rfl rfl rfl (Low.flat _) ?_
  intro E hG hM
  repeat' (first | (with_reducible first | refine pa ?_ | refine pb ?_ | refine pc ?_ | refine nxt_n ?_ | refine nxt_e ?_ | refine nxt_r ?_ | refine blk_n ?_ | refine blk_r ?_ | refine blk_hit ?_ | refine blk_miss (by rfl) ?_ | refine pd ?_ | refine pe ?_ | refine pf ?_ | refine pg ?_ | apply And.intro) | (refine hK _ ?_; clear hK K hΘ Θ) | (with_reducible first | refine cw1 ?_ | refine cw2 ?_ | exact cw3 | exact cw4) | ((with_reducible first | refine cw5 (fun gg => ?_) | refine cw6 (fun gg => ?_) | refine cw7 (fun gg => ?_)); try simp only [gg]) | refine cs1 hG rfl ?_ ?_ | refine cs2 hG rfl ?_ ?_ | ((first | refine kg (GoodDraft_sp e.d hd _ _) rfl hΘ ?_ | refine rga hG (by kernel_rfl) (fun Θ K hΘ hK => ?_) | refine rgb hG (by kernel_rfl) (fun Θ K hΘ hK => ?_)); simp (maxSteps := 2000000) only [go_sem, seval, reduceCtorEq, List.append_eq, hD, hO]) | ((first | refine Post.splitN (fun gg => ?_) (fun gg => ?_) | refine Post.split (fun gg => ?_) (fun gg => ?_)) <;> simp (maxSteps := 2000000) only [go_sem, seval, reduceCtorEq, List.append_eq, gg, hD, hO]) | (refine finR (by simp only [go_sem, seval, reduceCtorEq, List.append_eq, hD, hO]; exact rfl) ?_; simp only [go_sem, seval, reduceCtorEq, List.append_eq, hD, hO]) | refine updL hM ?_ (by omega) | (with_reducible exact fun _ _ => rfl))
  all_goals (first | omega | (simp only [decide_eq_true_eq, decide_eq_false_iff_not] at *; omega) | (simp only [List.length_append, List.length_cons, List.length_nil] <;> omega) | exact one_bv _ | exact one_sv _ | skip)
  any_goals (first | exact f0 | exact f1 | exact f2 | exact f3 | exact f4)
  all_goals clear f0 f1 f2 f3 f4 hD hO okD okO hin
  all_goals
    have g1 := @Ent.good1 e
    have g2 := @Ent.good2 e
    have g3 := @Ent.good3 e
    have g0 := @Ent.good0 e
    have go := Ent.out_mask e
  all_goals first | (simp_all; done) | (simp_all [Ent.out]; done) | (simp_all [Ent.out] <;> (intros; omega))
end Go.VL

set_option linter.unusedVariables false
set_option linter.unusedSimpArgs false
set_option maxRecDepth 100000
set_option maxHeartbeats 8000000
open Go.RowKit
namespace Go.VL
open Go.Proofs
theorem EText_sp (e : Ent) (he : e.ok) : Rt 84 [.agg e.c] (.flat (.string (bs e.text))) := by
  obtain ⟨i1, i2, i3, i4, i5, i6, i7⟩ := id he
  have n1 : e.kind < 9223372036854775808 := by have := i1.2; omega
  have n2 : e.from_ < 9223372036854775808 := by have := i3.2; omega
  have n3 : e.seq < 9223372036854775808 := by have := i4.2; omega
  have n4 : e.mask < 9223372036854775808 := by have := i5.2; omega
  have n5 : e.d.k < 9223372036854775808 := by have := i2.1.2; omega
  have b1 := numB_length e.kind.toNat (by omega)
  have b2 := numB_length e.from_.toNat (by omega)
  have b3 := numB_length e.seq.toNat (by omega)
  have b4 := numB_length e.mask.toNat (by omega)
  have tb := take_bv32 e.prev
  intro M mn
  refine fnL (C := kc 54 [] []) (rs := [.tmp 2]) envOk Tryd.func84 (by kernel_rfl) rfl rfl rfl rfl rfl rfl (Low.flat _) ?_
  intro E hG hM
  by_cases hg : e.good = true
  · obtain ⟨c1, c2, c3, c4⟩ := Ent.good_le hg
    have b5 := Dr.text_le e.d c3 c4 n5
    have ht : e.text = listB e.parts := if_pos hg
    have t1 : total [numB e.kind.toNat, e.d.text] ≤ 1000000000 := by simp [total]; omega
    have t2 : total [numB e.kind.toNat, numB e.from_.toNat, numB e.seq.toNat, e.prev.1, numB e.mask.toNat, e.pay, e.sig] ≤ 1000000000 := by simp [total, e.prev.2]; omega
    have t3 : total [numB e.kind.toNat, numB e.mask.toNat, e.pay] ≤ 1000000000 := by simp [total]; omega
    by_cases k1 : e.kind = 1
    · have p1 : e.parts = [numB e.kind.toNat, e.d.text] := if_pos k1
      have q1 := eq_true k1
      have hts : bs (listB [numB e.kind.toNat, e.d.text]) = bs e.text := by rw [ht, p1]
      repeat' (first | (with_reducible first | refine pa ?_ | refine pb ?_ | refine pc ?_ | refine nxt_n ?_ | refine nxt_e ?_ | refine nxt_r ?_ | refine blk_n ?_ | refine blk_r ?_ | refine blk_hit ?_ | refine blk_miss (by rfl) ?_ | refine pd ?_ | refine pe ?_ | refine pf ?_ | refine pg ?_ | apply And.intro) | (refine hK _ ?_; first | clear hK K hn0 hcl hΘ Θ | clear hK K hΘ Θ) | (with_reducible first | refine cw1 ?_ | refine cw2 ?_ | exact cw3 | exact cw4) | ((with_reducible first | refine cw5 (fun gg => ?_) | refine cw6 (fun gg => ?_) | refine cw7 (fun gg => ?_)); try simp only [gg]) | refine cs1 hG rfl ?_ ?_ | refine cs2 hG rfl ?_ ?_ | ((first | refine kg (EGood_sp e he _ _) rfl hΘ ?_ | refine kf (fun M n => Num_sp _ n1 M n) rfl (by decide) cl0 hΘ hcl hn0 ?_ | refine kf (fun M n => DraftText_sp e.d i2 (by omega) M n) rfl (by decide) cl0 hΘ hcl hn0 ?_ | refine kf (fun M n => List_sp _ t1 (by simp) M n) rfl (by decide) cl0 hΘ hcl hn0 ?_ | refine rga hG (by kernel_rfl) (fun Θ K hΘ hK => ?_) | refine rgb hG (by kernel_rfl) (fun Θ K hΘ hK => ?_) | refine rgc defCl hG (by kernel_rfl) cl0 (by rfl) (by kernel_rfl) (fun Θ K hΘ hcl hn0 hK => ?_) | refine rgd defCl hG (by kernel_rfl) cl0 (by rfl) (by kernel_rfl) (fun Θ K hΘ hcl hn0 hK => ?_)); simp (maxSteps := 2000000) only [go_sem, seval, reduceCtorEq, hg, q1, hts]) | ((first | refine Post.splitN (fun gg => ?_) (fun gg => ?_) | refine PostB.splitN (fun gg => ?_) (fun gg => ?_) | refine Post.split (fun gg => ?_) (fun gg => ?_) | refine PostB.split (fun gg => ?_) (fun gg => ?_)) <;> simp (maxSteps := 2000000) only [go_sem, seval, reduceCtorEq, gg, hg, q1, hts]) | (refine finR (by simp only [go_sem, seval, reduceCtorEq, hg, q1, hts]; exact rfl) ?_; simp only [go_sem, seval, reduceCtorEq, hg, q1, hts]) | refine updL hM ?_ (by omega) | (with_reducible exact fun _ _ => rfl))
      all_goals (first | omega | (simp only [decide_eq_true_eq, decide_eq_false_iff_not] at *; omega) | (simp only [List.length_append, List.length_cons, List.length_nil] <;> omega) | exact one_bv _ | exact one_sv _ | skip)
    · have q1 := eq_false k1
      by_cases k2 : e.kind = 2
      · have p2 : e.parts = [numB e.kind.toNat, numB e.from_.toNat, numB e.seq.toNat, e.prev.1, numB e.mask.toNat, e.pay, e.sig] := by rw [Ent.parts, if_neg k1, if_pos k2]
        have hts : bs (listB [numB e.kind.toNat, numB e.from_.toNat, numB e.seq.toNat, e.prev.1, numB e.mask.toNat, e.pay, e.sig]) = bs e.text := by rw [ht, p2]
        have q2 := eq_true k2
        repeat' (first | (with_reducible first | refine pa ?_ | refine pb ?_ | refine pc ?_ | refine nxt_n ?_ | refine nxt_e ?_ | refine nxt_r ?_ | refine blk_n ?_ | refine blk_r ?_ | refine blk_hit ?_ | refine blk_miss (by rfl) ?_ | refine pd ?_ | refine pe ?_ | refine pf ?_ | refine pg ?_ | apply And.intro) | (refine hK _ ?_; first | clear hK K hn0 hcl hΘ Θ | clear hK K hΘ Θ) | (with_reducible first | refine cw1 ?_ | refine cw2 ?_ | exact cw3 | exact cw4) | ((with_reducible first | refine cw5 (fun gg => ?_) | refine cw6 (fun gg => ?_) | refine cw7 (fun gg => ?_)); try simp only [gg]) | refine cs1 hG rfl ?_ ?_ | refine cs2 hG rfl ?_ ?_ | ((first | refine kg (EGood_sp e he _ _) rfl hΘ ?_ | refine kf (fun M n => Num_sp _ n1 M n) rfl (by decide) cl0 hΘ hcl hn0 ?_ | refine kf (fun M n => Num_sp _ n2 M n) rfl (by decide) cl0 hΘ hcl hn0 ?_ | refine kf (fun M n => Num_sp _ n3 M n) rfl (by decide) cl0 hΘ hcl hn0 ?_ | refine kf (fun M n => Num_sp _ n4 M n) rfl (by decide) cl0 hΘ hcl hn0 ?_ | refine kf (fun M n => List_sp _ t2 (by simp) M n) rfl (by decide) cl0 hΘ hcl hn0 ?_ | refine rga hG (by kernel_rfl) (fun Θ K hΘ hK => ?_) | refine rgb hG (by kernel_rfl) (fun Θ K hΘ hK => ?_) | refine rgc defCl hG (by kernel_rfl) cl0 (by rfl) (by kernel_rfl) (fun Θ K hΘ hcl hn0 hK => ?_) | refine rgd defCl hG (by kernel_rfl) cl0 (by rfl) (by kernel_rfl) (fun Θ K hΘ hcl hn0 hK => ?_)); simp (maxSteps := 2000000) only [go_sem, seval, reduceCtorEq, hg, q1, q2, hts, tb]) | ((first | refine Post.splitN (fun gg => ?_) (fun gg => ?_) | refine PostB.splitN (fun gg => ?_) (fun gg => ?_) | refine Post.split (fun gg => ?_) (fun gg => ?_) | refine PostB.split (fun gg => ?_) (fun gg => ?_)) <;> simp (maxSteps := 2000000) only [go_sem, seval, reduceCtorEq, gg, hg, q1, q2, hts, tb]) | (refine finR (by simp only [go_sem, seval, reduceCtorEq, hg, q1, q2, hts, tb]; exact rfl) ?_; simp only [go_sem, seval, reduceCtorEq, hg, q1, q2, hts, tb]) | refine updL hM ?_ (by omega) | (with_reducible exact fun _ _ => rfl))
        all_goals (first | omega | (simp only [decide_eq_true_eq, decide_eq_false_iff_not] at *; omega) | (simp only [List.length_append, List.length_cons, List.length_nil] <;> omega) | exact one_bv _ | exact one_sv _ | skip)
      · have p3 : e.parts = [numB e.kind.toNat, numB e.mask.toNat, e.pay] := by rw [Ent.parts, if_neg k1, if_neg k2]
        have q2 := eq_false k2
        have hts : bs (listB [numB e.kind.toNat, numB e.mask.toNat, e.pay]) = bs e.text := by rw [ht, p3]
        repeat' (first | (with_reducible first | refine pa ?_ | refine pb ?_ | refine pc ?_ | refine nxt_n ?_ | refine nxt_e ?_ | refine nxt_r ?_ | refine blk_n ?_ | refine blk_r ?_ | refine blk_hit ?_ | refine blk_miss (by rfl) ?_ | refine pd ?_ | refine pe ?_ | refine pf ?_ | refine pg ?_ | apply And.intro) | (refine hK _ ?_; first | clear hK K hn0 hcl hΘ Θ | clear hK K hΘ Θ) | (with_reducible first | refine cw1 ?_ | refine cw2 ?_ | exact cw3 | exact cw4) | ((with_reducible first | refine cw5 (fun gg => ?_) | refine cw6 (fun gg => ?_) | refine cw7 (fun gg => ?_)); try simp only [gg]) | refine cs1 hG rfl ?_ ?_ | refine cs2 hG rfl ?_ ?_ | ((first | refine kg (EGood_sp e he _ _) rfl hΘ ?_ | refine kf (fun M n => Num_sp _ n1 M n) rfl (by decide) cl0 hΘ hcl hn0 ?_ | refine kf (fun M n => Num_sp _ n4 M n) rfl (by decide) cl0 hΘ hcl hn0 ?_ | refine kf (fun M n => List_sp _ t3 (by simp) M n) rfl (by decide) cl0 hΘ hcl hn0 ?_ | refine rga hG (by kernel_rfl) (fun Θ K hΘ hK => ?_) | refine rgb hG (by kernel_rfl) (fun Θ K hΘ hK => ?_) | refine rgc defCl hG (by kernel_rfl) cl0 (by rfl) (by kernel_rfl) (fun Θ K hΘ hcl hn0 hK => ?_) | refine rgd defCl hG (by kernel_rfl) cl0 (by rfl) (by kernel_rfl) (fun Θ K hΘ hcl hn0 hK => ?_)); simp (maxSteps := 2000000) only [go_sem, seval, reduceCtorEq, hg, q1, q2, hts]) | ((first | refine Post.splitN (fun gg => ?_) (fun gg => ?_) | refine PostB.splitN (fun gg => ?_) (fun gg => ?_) | refine Post.split (fun gg => ?_) (fun gg => ?_) | refine PostB.split (fun gg => ?_) (fun gg => ?_)) <;> simp (maxSteps := 2000000) only [go_sem, seval, reduceCtorEq, gg, hg, q1, q2, hts]) | (refine finR (by simp only [go_sem, seval, reduceCtorEq, hg, q1, q2, hts]; exact rfl) ?_; simp only [go_sem, seval, reduceCtorEq, hg, q1, q2, hts]) | refine updL hM ?_ (by omega) | (with_reducible exact fun _ _ => rfl))
        all_goals (first | omega | (simp only [decide_eq_true_eq, decide_eq_false_iff_not] at *; omega) | (simp only [List.length_append, List.length_cons, List.length_nil] <;> omega) | exact one_bv _ | exact one_sv _ | skip)
  · have hg' : e.good = false := by simpa using hg
    have ht : e.text = [] := if_neg hg
    rw [ht]
    repeat' (first | (with_reducible first | refine pa ?_ | refine pb ?_ | refine pc ?_ | refine nxt_n ?_ | refine nxt_e ?_ | refine nxt_r ?_ | refine blk_n ?_ | refine blk_r ?_ | refine blk_hit ?_ | refine blk_miss (by rfl) ?_ | refine pd ?_ | refine pe ?_ | refine pf ?_ | refine pg ?_ | apply And.intro) | (refine hK _ ?_; first | clear hK K hn0 hcl hΘ Θ | clear hK K hΘ Θ) | (with_reducible first | refine cw1 ?_ | refine cw2 ?_ | exact cw3 | exact cw4) | ((with_reducible first | refine cw5 (fun gg => ?_) | refine cw6 (fun gg => ?_) | refine cw7 (fun gg => ?_)); try simp only [gg]) | refine cs1 hG rfl ?_ ?_ | refine cs2 hG rfl ?_ ?_ | ((first | refine kg (EGood_sp e he _ _) rfl hΘ ?_ | refine rga hG (by kernel_rfl) (fun Θ K hΘ hK => ?_) | refine rgb hG (by kernel_rfl) (fun Θ K hΘ hK => ?_) | refine rgc defCl hG (by kernel_rfl) cl0 (by rfl) (by kernel_rfl) (fun Θ K hΘ hcl hn0 hK => ?_) | refine rgd defCl hG (by kernel_rfl) cl0 (by rfl) (by kernel_rfl) (fun Θ K hΘ hcl hn0 hK => ?_)); simp (maxSteps := 2000000) only [go_sem, seval, reduceCtorEq, hg']) | ((first | refine Post.splitN (fun gg => ?_) (fun gg => ?_) | refine PostB.splitN (fun gg => ?_) (fun gg => ?_) | refine Post.split (fun gg => ?_) (fun gg => ?_) | refine PostB.split (fun gg => ?_) (fun gg => ?_)) <;> simp (maxSteps := 2000000) only [go_sem, seval, reduceCtorEq, gg, hg']) | (refine finR (by simp only [go_sem, seval, reduceCtorEq, hg']; exact rfl) ?_; simp only [go_sem, seval, reduceCtorEq, hg']) | refine updL hM ?_ (by omega) | (with_reducible exact fun _ _ => rfl))
    all_goals (first | omega | (simp only [decide_eq_true_eq, decide_eq_false_iff_not] at *; omega) | (simp only [List.length_append, List.length_cons, List.length_nil] <;> omega) | exact one_bv _ | exact one_sv _ | skip)
end Go.VL

set_option linter.unusedVariables false
set_option linter.unusedSimpArgs false
set_option maxRecDepth 100000
set_option maxHeartbeats 8000000
open Go.RowKit
namespace Go.VL
open Go.Proofs
end Go.VL

set_option linter.unusedVariables false
set_option linter.unusedSimpArgs false
set_option maxRecDepth 100000
set_option maxHeartbeats 8000000
open Go.RowKit
namespace Go.VL
open Go.Proofs
end Go.VL

set_option linter.unusedVariables false
set_option linter.unusedSimpArgs false
set_option maxRecDepth 100000
set_option maxHeartbeats 8000000
open Go.RowKit
namespace Go.VL
open Go.Proofs
end Go.VL
