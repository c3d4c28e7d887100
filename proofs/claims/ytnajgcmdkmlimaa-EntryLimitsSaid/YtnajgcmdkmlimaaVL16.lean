/- Part VL16 of the proof: made for this claim. -/
import Derived.Test.YtnajgcmdkmlimaaVL15
import Derived.Orders
/-! VL part 16: regions, operation by operation. -/
set_option linter.unusedVariables false
set_option linter.unusedSimpArgs false
open Go.RowKit
namespace Go.VL
variable {P : Program} {H : Env} {L : LEnv} {E : Entry} {nt : Nat} {w : World}

theorem noOwn_flat (v : Value) : V.noOwn (.flat v) := fun j sz n cs h => by cases j <;> simp [comp] at h
theorem noOwn_agg (v : List V) : V.noOwn (.agg v) := fun j sz n cs h => by cases j <;> simp [comp] at h
theorem noOwn_nil : V.noOwn .nil := fun j sz n cs h => by cases j <;> simp [comp] at h
theorem noOwn_ref (v : List V) (o : Nat) : V.noOwn (.ref v o) := fun j sz n cs h => by cases j <;> simp [comp] at h
theorem noOwn_bp (b o : Nat) : V.noOwn (.bp b o) := fun j sz n cs h => by cases j <;> simp [comp] at h
theorem noOwn_bs (b o n c : Nat) : V.noOwn (.bs b o n c) := fun j sz n cs h => by cases j <;> simp [comp] at h
theorem noOwn_slf (sz n : Nat) (v : List V) : V.noOwn (.sl false sz n v) := fun j sz n cs h => by cases j <;> simp [comp] at h

theorem noOwn_fz' {x : V} (h : ∀ cs, x ≠ .tup cs) : V.noOwn x.fz := noOwn_fz x h

/-- No tuple stands in cells: a value that ev1 hands back owns nothing. -/
def V.clean (x : V) : V := x.fzT
theorem fz_or (x : V) : V.noOwn x.fz ∨ ∃ cs, x = .tup cs := by
  cases x with
  | tup cs => exact .inr ⟨cs, rfl⟩
  | _ => exact .inl (noOwn_fz _ (fun _ h => by cases h))

/-- The result of an operation that only computes, cleaned. -/
noncomputable def evC (H : Env) (L : LEnv) (mem : Nat → Option (List V)) (ρ : Operand → V) (op : Op) : Option (Prop × V) := match ev1 H L mem ρ op with
  | some (c, x) => some (c, x.fzT)
  | none => none

theorem step_evC (hH : EnvOk P H) (hL : LEnvOk P L) {gl : Nat → Option (List V)} (hG : GlOk E.g0 E.w0 gl) {o : Oper} {σ : S} {d : Nat} {c : Prop} {x : V} (ho : o.dst = some d) (hd : d < nt)
    (h : evC H L σ.mem (evO (lk σ.sl) gl) o.op = some (c, x)) (hc : c) : StepTo P E nt o σ (σ.set d x) := by
  rintro a w ⟨g, ob, h1, h2, h3, h4⟩
  have hg := hG.onto h1.onto
  unfold evC at h
  cases he : ev1 H L σ.mem (evO (lk σ.sl) gl) o.op with
  | none => rw [he] at h; cases h
  | some p =>
    obtain ⟨c', x'⟩ := p
    rw [he] at h
    simp only [Option.some.injEq, Prod.mk.injEq] at h
    obtain ⟨rfl, rfl⟩ := h
    obtain ⟨v, r1, r2⟩ := ev1_sound (g := g) (w := w) hH hL (mem := σ.mem) h1.box (ρ := evO (lk σ.sl) gl) (σ := a.eval) (fun y hy => by
      have := evO_rel (d := a.defers) h1.slot hg y hy
      exact this) o he hc
    refine .inl ⟨v, w, r1, ?_⟩
    rw [ho, put_some]
    refine ⟨g, ob, ?_, h2, h3, by simpa using h4⟩
    rw [S.set, lk_cons]
    exact h1.put (by omega) (fun _ => r2.fzT) (noOwn_fzT _)

inductive R1 where
  | ok (c : Prop) (σ : S)
  | call (f : FuncId) (args : List V)
  | stuck

/-- What is fixed of a function's walk. -/
structure Cfg where
  H : Env
  L : LEnv
  gl : Nat → Option (List V)
  nt : Nat
  /-- the temporaries that take what they are given -/
  T : List Nat
  /-- .. that are boxes -/
  B : List Nat

noncomputable def evR (C : Cfg) (σ : S) (d : Nat) (op : Op) : R1 := match evC C.H C.L σ.mem (evO (lk σ.sl) C.gl) op with
  | some (c, x) => .ok (c ∧ d < C.nt) (σ.set d x)
  | none => .stuck

noncomputable def takeV (C : Cfg) (σ : S) (d : Nat) (x : Operand) (op : Op) : R1 := match x with
  | .tmp i => match lk σ.sl i with
    | .sl own sz n cs => match own with
      | true => .ok (d < C.nt) { σ with sl := (d, .sl true sz n cs) :: (i, .sl false sz n cs) :: σ.sl }
      | false => evR C σ d op
    | _ => evR C σ d op
  | _ => evR C σ d op

noncomputable def takeTupV (C : Cfg) (σ : S) (d : Nat) (x : Operand) (j : Nat) (op : Op) : R1 := match x with
  | .tmp i => match lk σ.sl i with
    | .tup vs => match vs[j]? with
      | some y => match y with
        | .sl own sz n cs => match own with
          | true => .ok (d < C.nt) { σ with sl := (d, .sl true sz n cs) :: (i, .tup (vs.set j (.sl false sz n cs))) :: σ.sl }
          | false => evR C σ d op
        | _ => evR C σ d op
      | none => .stuck
    | _ => .stuck
  | _ => .stuck

noncomputable def takeCellV (C : Cfg) (σ : S) (d : Nat) (t : TypeId) (x : Operand) (op : Op) : R1 := match evO (lk σ.sl) C.gl x with
  | .bp b off => match σ.mem b with
    | some l => match l[off]? with
      | some y => match y with
        | .sl own sz n cs => match own with
          | true => match C.H.get t with
            | some j => match j.agg with
              | false => .ok (d < C.nt) { σ with sl := (d, .sl true sz n cs) :: σ.sl, mem := upd σ.mem b (some (l.set off (.sl false sz n cs))) }
              | true => .stuck
            | none => .stuck
          | false => evR C σ d op
        | _ => evR C σ d op
      | none => .stuck
    | none => .stuck
  | _ => evR C σ d op

def allocV (C : Cfg) (σ : S) (d : Nat) (t : TypeId) : R1 := match C.H.get t with
  | some i => match i.zok with
    | true => .ok (d < C.nt) { sl := (d, .bp σ.mn 0) :: σ.sl, mem := upd σ.mem σ.mn (some i.zero), mn := σ.mn + 1 }
    | false => .stuck
  | none => .stuck

def boxV (C : Cfg) (σ : S) (d : Nat) (x : V) : R1 :=
  .ok (x ≠ .unk ∧ (∀ z ∈ x.cells.map V.fz, noOwnB z = true) ∧ d < C.nt) { sl := (d, .bp σ.mn 0) :: σ.sl, mem := upd σ.mem σ.mn (some (x.cells.map V.fz)), mn := σ.mn + 1 }

def bslV (C : Cfg) (σ : S) (d : Nat) (t n : Nat) (ps : List (Nat × V)) : R1 := match C.H.get t with
  | some ti => match ti.k with
    | .sl e => match C.H.get e with
      | some i => match i.zok with
        | true => match fillV (fun k => some (k * i.sz, i.sz)) (rep n i.zero) (ps.map fun p => (p.1, p.2.fz)) with
          | some (c, r) => .ok (c ∧ n * i.sz ≤ 2 ^ 24 ∧ 0 < n * i.sz ∧ (∀ p ∈ ps, p.2 ≠ .unk) ∧ r.length = n * i.sz ∧ d < C.nt) (σ.set d (.sl true i.sz n r))
          | none => .stuck
        | false => .stuck
      | none => .stuck
    | _ => .stuck
  | none => .stuck

def mkSlV (C : Cfg) (σ : S) (d : Nat) (t : TypeId) (x y : V) : R1 := match C.H.get t with
  | some ti => match ti.k with
    | .sl e => match C.H.get e with
      | some i => match i.zok with
        | true => match x with
          | .flat v => match v with
            | .int k n => match y with
              | .flat u => match u with
                | .int k' m => if C.B.contains d = true then
                    .ok (n = m ∧ 0 ≤ n ∧ n ≤ 9223372036854775807 ∧ i.bytes * n ≤ 281474976710656 ∧ d < C.nt) { sl := (d, .bs σ.mn 0 n.toNat n.toNat) :: σ.sl, mem := upd σ.mem σ.mn (some (rep n.toNat i.zero)), mn := σ.mn + 1 }
                  else .ok (n = m ∧ 0 ≤ n ∧ n ≤ 9223372036854775807 ∧ i.bytes * n ≤ 281474976710656 ∧ d < C.nt) (σ.set d (.sl true i.sz n.toNat (rep n.toNat i.zero)))
                | _ => .stuck
              | _ => .stuck
            | _ => .stuck
          | _ => .stuck
        | false => .stuck
      | none => .stuck
    | _ => .stuck
  | none => .stuck

noncomputable def cvtV (C : Cfg) (σ : S) (d : Nat) (u t : TypeId) (x : V) (op : Op) : R1 := match C.H.get t with
  | some ti => match ti.k with
    | .sl e => match x with
      | .flat v => match v with
        | .string s => match C.H.get u with
          | some ui => match ui.k with
            | .str => match C.H.get e with
              | some ei => match ei.k with
                | .int k => match k with
                  | .u8 => .ok (s.size ≤ maxLen ∧ d < C.nt) (σ.set d (.sl true 1 s.size (bytesC s)))
                  | _ => .stuck
                | _ => .stuck
              | none => .stuck
            | _ => .stuck
          | none => .stuck
        | _ => .stuck
      | _ => .stuck
    | _ => evR C σ d op
  | none => .stuck

def appV (C : Cfg) (σ : S) (d : Nat) (t xt : TypeId) (x y : Operand) : R1 := match C.H.get t with
  | some ti => match ti.k with
    | .sl e => match C.H.get e with
      | some ei => match C.H.get xt with
        | some xi => match srcV σ.mem ei.sz (evO (lk σ.sl) C.gl y) with
          | some (c, m, xs) => match evO (lk σ.sl) C.gl x with
            | .nil => .ok (c ∧ notIntT xi = true ∧ ei.zok = true ∧ m ≤ maxLen ∧ m * ei.bytes ≤ 140737488355328 ∧ d < C.nt) (σ.set d (.sl true ei.sz m xs))
            | .sl own sz n cs => match own with
              | true => match x with
                | .tmp i => .ok (c ∧ notIntT xi = true ∧ ei.zok = true ∧ sz = ei.sz ∧ cs.length = n * ei.sz ∧ (∀ z ∈ xs, oneB z = true) ∧ n + m ≤ maxLen ∧ (n + m) * ei.bytes ≤ 140737488355328 ∧ d < C.nt)
                    { σ with sl := (d, .sl true sz (n + m) (cs ++ xs)) :: (i, .sl false sz n cs) :: σ.sl }
                | _ => .stuck
              | false => .stuck
            | _ => .stuck
          | none => .stuck
        | none => .stuck
      | none => .stuck
    | _ => .stuck
  | none => .stuck

def stoV (C : Cfg) (σ : S) (t : TypeId) (x y : Operand) : R1 := match C.H.get t with
  | some ti => match evO (lk σ.sl) C.gl x with
    | .bp b off => match σ.mem b with
      | some cs => match evO (lk σ.sl) C.gl y with
        | .sl own sz n l => match own with
          | true => match y with
            | .tmp i => .ok (ti.sz = 1 ∧ off < cs.length) { σ with sl := (i, .sl false sz n l) :: σ.sl, mem := upd σ.mem b (some (putV cs off [.sl true sz n l])) }
            | _ => .stuck
          | false => .ok (ti.sz = 1 ∧ off + ti.sz ≤ cs.length) { σ with mem := upd σ.mem b (some (putV cs off [.sl false sz n l])) }
        | X => .ok (X ≠ .unk ∧ X.cells.length = ti.sz ∧ off + ti.sz ≤ cs.length ∧ ∀ z ∈ X.cells.map V.fz, noOwnB z = true ∧ oneB z = true) { σ with mem := upd σ.mem b (some (putV cs off (X.cells.map V.fz))) }
      | none => .stuck
    | _ => .stuck
  | none => .stuck

noncomputable def stepV (C : Cfg) (o : Oper) (σ : S) : R1 := match o.dst with
  | some d => match o.op with
    | .assign x => takeV C σ d x (.assign x)
    | .move x => if C.T.contains d = true then takeV C σ d x (.move x) else evR C σ d (.move x)
    | .extract x j => takeTupV C σ d x j (.extract x j)
    | .load t x => if C.T.contains d = true then takeCellV C σ d t x (.load t x) else evR C σ d (.load t x)
    | .alloc t => allocV C σ d t
    | .box t y => boxV C σ d (evO (lk σ.sl) C.gl y)
    | .buildSlice t n ps => bslV C σ d t n (ps.toList.map fun p => (p.1, evO (lk σ.sl) C.gl p.2))
    | .makeSlice t x y => mkSlV C σ d t (evO (lk σ.sl) C.gl x) (evO (lk σ.sl) C.gl y)
    | .convert u t x => cvtV C σ d u t (evO (lk σ.sl) C.gl x) (.convert u t x)
    | .call c => match c.callee with
      | .builtin b => match b with
        | .append => match c.args.toList, c.argTypes.toList with
          | [x, y], [t, xt] => appV C σ d t xt x y
          | _, _ => .stuck
        | _ => evR C σ d (.call c)
      | .value y => match y with
        | .func f => .call f (c.args.toList.map fun x => (evO (lk σ.sl) C.gl x).fz)
        | _ => .stuck
      | _ => .stuck
    | op => evR C σ d op
  | none => match o.op with
    | .store t x y => stoV C σ t x y
    | _ => .stuck

theorem evR_sound {C : Cfg} (hH : EnvOk P C.H) (hL : LEnvOk P C.L) (hG : GlOk E.g0 E.w0 C.gl) {o : Oper} {σ σ' : S} {d : Nat} {c : Prop} {op : Op} (hop : o.op = op) (ho : o.dst = some d) (h : evR C σ d op = .ok c σ') (hc : c) : StepTo P E C.nt o σ σ' := by
  unfold evR at h
  split at h <;> try cases h
  rename_i c' x he
  exact step_evC hH hL hG ho hc.2 (by rw [hop]; exact he) hc.1

end Go.VL
