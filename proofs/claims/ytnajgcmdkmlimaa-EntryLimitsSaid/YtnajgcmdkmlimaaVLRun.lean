/- Part VLRun of the proof: made for this claim. -/
import Derived.Test.YtnajgcmdkmlimaaVLSub
/-! VL: the walk, test by test: where a guard is not decided, both ways. -/
set_option linter.unusedVariables false
set_option linter.unusedSimpArgs false
open Go.RowKit
namespace Go.VL
variable {P : Program} {E : Entry} {C : Cfg}

/-- Whether an operation is wanted, as a value. -/
def gW (ds : List (Option Nat)) (s : Nat → V) (gd : Option (Nat × Bool)) : V := match gd with
  | none => .flat (.bool true)
  | some (j, want) => match (ds[j]?).bind id with
    | some d => match s d with
      | .flat v => match v with
        | .bool t => match want with
          | true => .flat (.bool t)
          | false => .flat (.bool (!t))
        | _ => .unk
      | .tup vs => match vs with
        | [] => .flat (.bool false)
        | _ :: _ => .unk
      | _ => .unk
    | none => .unk

theorem gW_want {ds : List (Option Nat)} {s : Nat → V} {gd : Option (Nat × Bool)} {b : Bool} (h : gW ds s gd = .flat (.bool b)) : wantV ds s gd = some b := by
  unfold gW at h
  unfold wantV
  split at h
  · cases h; rfl
  · rename_i j want
    simp only
    split at h
    · rename_i d hd
      rw [hd]
      simp only
      split at h
      · rename_i v hv
        rw [hv]
        simp only
        split at h
        · rename_i t
          cases want <;> cases t <;> cases h <;> rfl
        · cases h
      · rename_i vs hv
        rw [hv]
        simp only
        split at h
        · cases h; rfl
        · cases h
      · cases h
    · cases h

/-- One operation, and on. -/
noncomputable def goR (v : V) (C : Cfg) (ds : List (Option Nat)) (o : Oper) (rest : List Oper) (σ : S) (c : Prop) : Out := match v with
  | .flat (.bool b) => match b with
    | false => run C ds rest (σ.setU o.dst) c
    | true => match stepV C o σ with
      | .ok c' σ' => run C ds rest σ' (c ∧ c')
      | .call f args => match o.dst with
        | some d => .call c o rest d f args σ
        | none => .stuck o σ
      | .stuck => .stuck o σ
  | _ => run C ds (o :: rest) σ c
theorem goR_true (C : Cfg) (ds : List (Option Nat)) (o : Oper) (rest : List Oper) (σ : S) (c : Prop) : goR (.flat (.bool true)) C ds o rest σ c = match stepV C o σ with
      | .ok c' σ' => run C ds rest σ' (c ∧ c')
      | .call f args => match o.dst with
        | some d => .call c o rest d f args σ
        | none => .stuck o σ
      | .stuck => .stuck o σ := rfl
theorem goR_false (C : Cfg) (ds : List (Option Nat)) (o : Oper) (rest : List Oper) (σ : S) (c : Prop) : goR (.flat (.bool false)) C ds o rest σ c = run C ds rest (σ.setU o.dst) c := rfl
theorem run_nil (C : Cfg) (ds : List (Option Nat)) (σ : S) (c : Prop) : run C ds [] σ c = .done c σ := rfl
theorem run_cons (C : Cfg) (ds : List (Option Nat)) (o : Oper) (rest : List Oper) (σ : S) (c : Prop) : run C ds (o :: rest) σ c = goR (gW ds (lk σ.sl) o.guard) C ds o rest σ c := by
  unfold goR
  split
  · rename_i b hb
    have hw := gW_want hb
    conv => lhs; unfold run
    rw [hw]
    cases b <;> rfl
  · rfl
theorem Post.split {Θ : Ctx P E C} {ds : List (Option Nat)} {o : Oper} {rest : List Oper} {σ : S} {c : Prop} {K : S → Prop} {t : Bool}
    (h1 : t = true → Post Θ (goR (.flat (.bool true)) C ds o rest σ c) K) (h0 : t = false → Post Θ (goR (.flat (.bool false)) C ds o rest σ c) K) : Post Θ (goR (.flat (.bool t)) C ds o rest σ c) K := by
  cases t
  · exact h0 rfl
  · exact h1 rfl

noncomputable def goB (v : V) (C : Cfg) (cl : Cl) (ds : List (Option Nat)) (k : Nat) (o : Oper) (rest : List Oper) (σ : S) (c : Prop) : OutB := match v with
  | .flat (.bool b) => match b with
    | false => runB C cl ds (k + 1) rest (σ.setO o.dst (.tup [])) (c ∧ cl k o.op ≠ 3)
    | true => match runA.isCall o.op with
        | some (f, xs) => match o.dst with
          | some d => .call c k (cl k o.op) o rest d f (xs.map fun y => (evO (lk σ.sl) C.gl y).fz) σ
          | none => .stuck o σ
        | none => match stepB C (cl k o.op) o σ with
          | .ok c' σ' => runB C cl ds (k + 1) rest σ' (c ∧ c')
          | .call _ _ => .stuck o σ
          | .stuck => .stuck o σ
  | _ => runB C cl ds k (o :: rest) σ c
theorem goB_true (C : Cfg) (cl : Cl) (ds : List (Option Nat)) (k : Nat) (o : Oper) (rest : List Oper) (σ : S) (c : Prop) : goB (.flat (.bool true)) C cl ds k o rest σ c = match runA.isCall o.op with
        | some (f, xs) => match o.dst with
          | some d => .call c k (cl k o.op) o rest d f (xs.map fun y => (evO (lk σ.sl) C.gl y).fz) σ
          | none => .stuck o σ
        | none => match stepB C (cl k o.op) o σ with
          | .ok c' σ' => runB C cl ds (k + 1) rest σ' (c ∧ c')
          | .call _ _ => .stuck o σ
          | .stuck => .stuck o σ := rfl
theorem goB_false (C : Cfg) (cl : Cl) (ds : List (Option Nat)) (k : Nat) (o : Oper) (rest : List Oper) (σ : S) (c : Prop) : goB (.flat (.bool false)) C cl ds k o rest σ c = runB C cl ds (k + 1) rest (σ.setO o.dst (.tup [])) (c ∧ cl k o.op ≠ 3) := rfl
theorem runB_nil (C : Cfg) (cl : Cl) (ds : List (Option Nat)) (k : Nat) (σ : S) (c : Prop) : runB C cl ds k [] σ c = .done c σ := rfl
theorem runB_cons (C : Cfg) (cl : Cl) (ds : List (Option Nat)) (k : Nat) (o : Oper) (rest : List Oper) (σ : S) (c : Prop) : runB C cl ds k (o :: rest) σ c = goB (gW ds (lk σ.sl) o.guard) C cl ds k o rest σ c := by
  unfold goB
  split
  · rename_i b hb
    have hw := gW_want hb
    conv => lhs; unfold runB
    rw [hw]
    cases b <;> rfl
  · rfl
theorem PostB.split {Θ : CtxB P E C} {cl : Cl} {ds : List (Option Nat)} {k : Nat} {o : Oper} {rest : List Oper} {σ : S} {c : Prop} {K : S → Prop} {t : Bool}
    (h1 : t = true → PostB Θ (goB (.flat (.bool true)) C cl ds k o rest σ c) K) (h0 : t = false → PostB Θ (goB (.flat (.bool false)) C cl ds k o rest σ c) K) : PostB Θ (goB (.flat (.bool t)) C cl ds k o rest σ c) K := by
  cases t
  · exact h0 rfl
  · exact h1 rfl
theorem Post.splitN {Θ : Ctx P E C} {ds : List (Option Nat)} {o : Oper} {rest : List Oper} {σ : S} {c : Prop} {K : S → Prop} {t : Bool}
    (h1 : t = false → Post Θ (goR (.flat (.bool true)) C ds o rest σ c) K) (h0 : t = true → Post Θ (goR (.flat (.bool false)) C ds o rest σ c) K) : Post Θ (goR (.flat (.bool (!t))) C ds o rest σ c) K := by
  cases t
  · exact h1 rfl
  · exact h0 rfl
theorem PostB.splitN {Θ : CtxB P E C} {cl : Cl} {ds : List (Option Nat)} {k : Nat} {o : Oper} {rest : List Oper} {σ : S} {c : Prop} {K : S → Prop} {t : Bool}
    (h1 : t = false → PostB Θ (goB (.flat (.bool true)) C cl ds k o rest σ c) K) (h0 : t = true → PostB Θ (goB (.flat (.bool false)) C cl ds k o rest σ c) K) : PostB Θ (goB (.flat (.bool (!t))) C cl ds k o rest σ c) K := by
  cases t
  · exact h1 rfl
  · exact h0 rfl
theorem Post_done (Θ : Ctx P E C) (c : Prop) (σ : S) (K : S → Prop) : Post Θ (.done c σ) K = (c ∧ K σ) := rfl
theorem Post_call (Θ : Ctx P E C) (c : Prop) (o : Oper) (rest : List Oper) (d : Nat) (f : FuncId) (args : List V) (σ : S) (K : S → Prop) : Post Θ (.call c o rest d f args σ) K = (c ∧ CallG Θ o rest d f args σ K) := rfl
theorem Post_stuck (Θ : Ctx P E C) (o : Oper) (σ : S) (K : S → Prop) : Post Θ (.stuck o σ) K = False := rfl
theorem PostB_done (Θ : CtxB P E C) (c : Prop) (σ : S) (K : S → Prop) : PostB Θ (.done c σ) K = (c ∧ K σ) := rfl
theorem PostB_call (Θ : CtxB P E C) (c : Prop) (k cls : Nat) (o : Oper) (rest : List Oper) (d : Nat) (f : FuncId) (args : List V) (σ : S) (K : S → Prop) : PostB Θ (.call c k cls o rest d f args σ) K = (c ∧ CallB Θ k cls o rest d f args σ K) := rfl
theorem PostB_stuck (Θ : CtxB P E C) (o : Oper) (σ : S) (K : S → Prop) : PostB Θ (.stuck o σ) K = False := rfl

/-- A test that is not decided: both ways. -/
def Way (t b : Bool) (p : Prop) : Prop := t = b → p
theorem Way.intro {t b : Bool} {p : Prop} (h : t = b → p) : Way t b p := h
theorem WC.condS (hG : GlOk E.g0 E.w0 C.gl) {c : Operand} {x y : Code} {σ : S} {Q : QC} {t : Bool} (hc : evO (lk σ.sl) C.gl c = .flat (.bool t)) (h1 : Way t true (WC P E C x σ Q)) (h0 : Way t false (WC P E C y σ Q)) : WC P E C (.cond c x y) σ Q :=
  WC.cond hG hc h1 h0
theorem WC.condSN (hG : GlOk E.g0 E.w0 C.gl) {c : Operand} {x y : Code} {σ : S} {Q : QC} {t : Bool} (hc : evO (lk σ.sl) C.gl c = .flat (.bool (!t))) (h1 : Way t false (WC P E C x σ Q)) (h0 : Way t true (WC P E C y σ Q)) : WC P E C (.cond c x y) σ Q :=
  WC.cond hG hc (fun e => h1 (by simpa using e)) (fun e => h0 (by simpa using e))
theorem WC.condSsN (hG : GlOk E.g0 E.w0 C.gl) {c : Operand} {x y z : Code} {σ : S} {Q : QC} {t : Bool} (hc : evO (lk σ.sl) C.gl c = .flat (.bool (!t))) (h1 : Way t false (WC P E C x σ (nxt (fun σ' => WC P E C z σ' Q) Q))) (h0 : Way t true (WC P E C y σ (nxt (fun σ' => WC P E C z σ' Q) Q))) : WC P E C (.seq (.cond c x y) z) σ Q :=
  WC.seq (WC.cond hG hc (fun e => h1 (by simpa using e)) (fun e => h0 (by simpa using e)))
theorem WC.condSs (hG : GlOk E.g0 E.w0 C.gl) {c : Operand} {x y z : Code} {σ : S} {Q : QC} {t : Bool} (hc : evO (lk σ.sl) C.gl c = .flat (.bool t)) (h1 : Way t true (WC P E C x σ (nxt (fun σ' => WC P E C z σ' Q) Q))) (h0 : Way t false (WC P E C y σ (nxt (fun σ' => WC P E C z σ' Q) Q))) : WC P E C (.seq (.cond c x y) z) σ Q :=
  WC.seq (WC.cond hG hc h1 h0)

end Go.VL
