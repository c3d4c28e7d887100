/- Part VLD3 of the proof: made for this claim. -/
import Derived.Test.YtnajgcmdkmlimaaVLD2
/-! VL: regions that draw their order, memory and all. Part 3: the walk. -/
set_option linter.unusedVariables false
set_option linter.unusedSimpArgs false
open Go.RowKit
namespace Go.VL
variable {P : Program} {E : Entry} {w : World} {C : Cfg}

/-- The class of an operation where nothing else is said. -/
def defCl : Cl := fun _ op => match op with
  | .store _ _ _ => 2
  | .alloc _ => 3
  | .box _ _ => 3
  | .load _ _ => 1
  | .convert _ _ _ => 1
  | _ => 0
/-- .. with others at some places. -/
def clW (l : List (Nat × Nat)) (cl : Cl) : Cl := fun k op => match l.find? (·.1 == k) with
  | some p => p.2
  | none => cl k op

inductive OutB where
  | done (c : Prop) (σ : S)
  | call (c : Prop) (k cls : Nat) (o : Oper) (rest : List Oper) (d : Nat) (f : FuncId) (args : List V) (σ : S)
  | wait (c : Prop) (v : V) (k : Nat) (rest : List Oper) (σ : S)
  | stuck (o : Oper) (σ : S)

def S.setO (σ : S) (d : Option Nat) (x : V) : S := match d with
  | some d => σ.set d x
  | none => σ

def valB (σ : S) (d : Nat) : Option (Prop × V) → R1
  | some (c, x) => .ok c (σ.set d x)
  | none => .stuck

def stoB (C : Cfg) (σ : S) (t : TypeId) (x y : V) : R1 := match C.H.get t with
  | some ti => match x with
    | .bp b off => match σ.mem b with
      | some cs => .ok (y ≠ .unk ∧ y.cells.length = ti.sz ∧ off + ti.sz ≤ cs.length ∧ ∀ z ∈ y.cells.map V.fz, noOwnB z = true ∧ oneB z = true) { σ with mem := upd σ.mem b (some (putV cs off (y.cells.map V.fz))) }
      | none => .stuck
    | _ => .stuck
  | none => .stuck
def alcB (C : Cfg) (σ : S) (d : Nat) (t : TypeId) : R1 := match C.H.get t with
  | some i => match i.zok with
    | true => .ok True { sl := (d, .bp σ.mn 0) :: σ.sl, mem := upd σ.mem σ.mn (some i.zero), mn := σ.mn + 1 }
    | false => .stuck
  | none => .stuck
def boxB (σ : S) (d : Nat) (x : V) : R1 :=
  .ok (x ≠ .unk ∧ ∀ z ∈ x.cells.map V.fz, noOwnB z = true) { sl := (d, .bp σ.mn 0) :: σ.sl, mem := upd σ.mem σ.mn (some (x.cells.map V.fz)), mn := σ.mn + 1 }

/-- Slices that are taken over, and appended to. -/
def takB (C : Cfg) (σ : S) (d : Nat) (x : Operand) (r : R1) : R1 := match x with
  | .tmp i => match lk σ.sl i with
    | .sl own sz m cs => match own with
      | true => .ok True { σ with sl := (d, .sl true sz m cs) :: (i, .sl false sz m cs) :: σ.sl }
      | false => r
    | _ => r
  | _ => r
def apdB (C : Cfg) (σ : S) (d : Nat) (t xt : TypeId) (x y : Operand) : R1 := match C.H.get t with
  | some ti => match ti.k with
    | .sl e => match C.H.get e with
      | some ei => match C.H.get xt with
        | some xi => match srcV (fun _ => none) ei.sz (evO (lk σ.sl) C.gl y) with
          | some (c, k, xs) => match x with
            | .tmp i => match lk σ.sl i with
              | .sl own sz m cs => match own with
                | true => .ok (c ∧ notIntT xi = true ∧ ei.zok = true ∧ sz = ei.sz ∧ cs.length = m * ei.sz ∧ (∀ z ∈ xs, oneB z = true) ∧ m + k ≤ maxLen ∧ (m + k) * ei.bytes ≤ 140737488355328)
                    { σ with sl := (d, .sl true sz (m + k) (cs ++ xs)) :: (i, .sl false sz m cs) :: σ.sl }
                | false => .stuck
              | _ => .stuck
            | _ => .stuck
          | none => .stuck
        | none => .stuck
      | none => .stuck
    | _ => .stuck
  | none => .stuck
/-- The operations that only compute, and those. -/
noncomputable def zeroB (C : Cfg) (o : Oper) (σ : S) (d : Nat) : R1 := match o.op with
  | .assign x => takB C σ d x (valB σ d (rowB C (evO (lk σ.sl) C.gl) (.assign x)))
  | .move x => if C.T.contains d = true then takB C σ d x (valB σ d (rowB C (evO (lk σ.sl) C.gl) (.move x))) else valB σ d (rowB C (evO (lk σ.sl) C.gl) (.move x))
  | .call cl => match cl.callee with
    | .builtin b => match b with
      | .append => match cl.args.toList, cl.argTypes.toList with
        | [x, y], [t, xt] => apdB C σ d t xt x y
        | _, _ => .stuck
      | _ => valB σ d (rowB C (evO (lk σ.sl) C.gl) (.call cl))
    | _ => valB σ d (rowB C (evO (lk σ.sl) C.gl) (.call cl))
  | op => valB σ d (rowB C (evO (lk σ.sl) C.gl) op)

noncomputable def stepB (C : Cfg) (cls : Nat) (o : Oper) (σ : S) : R1 := match cls with
  | 0 => match o.dst with
    | some d => zeroB C o σ d
    | none => .stuck
  | 1 => match o.dst with
    | some d => match rowB C (evO (lk σ.sl) C.gl) o.op with
      | some (c, x) => .ok c (σ.set d x)
      | none => valB σ d (evC C.H C.L σ.mem (evO (lk σ.sl) C.gl) o.op)
    | none => .stuck
  | 2 => match o.op with
    | .store t x y => match o.dst with
      | none => stoB C σ t (evO (lk σ.sl) C.gl x) (evO (lk σ.sl) C.gl y)
      | some _ => .stuck
    | _ => .stuck
  | 3 => match o.op with
    | .alloc t => match o.dst with
      | some d => alcB C σ d t
      | none => .stuck
    | .box t y => match o.dst with
      | some d => boxB σ d (evO (lk σ.sl) C.gl y)
      | none => .stuck
    | _ => .stuck
  | _ => .stuck

noncomputable def runB (C : Cfg) (cl : Cl) (ds : List (Option Nat)) : Nat → List Oper → S → Prop → OutB
  | k, [], σ, c => .done c σ
  | k, o :: rest, σ, c => match wantV ds (lk σ.sl) o.guard with
    | none => .wait c (gV ds (lk σ.sl) o.guard) k (o :: rest) σ
    | some b => match b with
      | false => runB C cl ds (k + 1) rest (σ.setO o.dst (.tup [])) (c ∧ cl k o.op ≠ 3)
      | true => match runA.isCall o.op with
        | some (f, xs) => match o.dst with
          | some d => .call c k (cl k o.op) o rest d f (xs.map fun y => (evO (lk σ.sl) C.gl y).fz) σ
          | none => .stuck o σ
        | none => match stepB C (cl k o.op) o σ with
          | .ok c' σ' => runB C cl ds (k + 1) rest σ' (c ∧ c')
          | .call _ _ => .stuck o σ
          | .stuck => .stuck o σ

/-- The region that is carried out, out of sight. -/
structure CtxB (P : Program) (E : Entry) (C : Cfg) where
  ops : List Oper
  cl : Cl
  n0 : Nat
  dst : dstOk C.nt ops = true
  H : EnvOk P C.H
  L : LEnvOk P C.L
  G : GlOk E.g0 E.w0 C.gl

def WRB (Θ : CtxB P E C) (k : Nat) (rest : List Oper) (σ : S) (K : S → Prop) : Prop := Θ.n0 ≤ σ.mn → Θ.ops.drop k = rest → LB P E C Θ.ops Θ.n0 Θ.cl (fun s M n => ∃ σ', lk σ'.sl = s ∧ σ'.mem = M ∧ σ'.mn = n ∧ K σ') rest k (lk σ.sl) σ.mem σ.mn
def CallB (Θ : CtxB P E C) (k cls : Nat) (o : Oper) (rest : List Oper) (d : Nat) (f : FuncId) (args : List V) (σ : S) (K : S → Prop) : Prop :=
  Θ.n0 ≤ σ.mn → Θ.ops.drop k = o :: rest → Θ.cl k o.op = cls → o.dst = some d → wantedV Θ.ops (lk σ.sl) o = some true → (∃ xs ats, o.op = .call { callee := .value (.func f), args := xs, argTypes := ats } ∧ args = xs.toList.map fun y => (evO (lk σ.sl) C.gl y).fz) →
    LB P E C Θ.ops Θ.n0 Θ.cl (fun s M n => ∃ σ', lk σ'.sl = s ∧ σ'.mem = M ∧ σ'.mn = n ∧ K σ') (o :: rest) k (lk σ.sl) σ.mem σ.mn
def PostB (Θ : CtxB P E C) (out : OutB) (K : S → Prop) : Prop := match out with
  | .done c σ => c ∧ K σ
  | .call c k cls o rest d f args σ => c ∧ CallB Θ k cls o rest d f args σ K
  | .wait c v k rest σ => c ∧ splitG v (WRB Θ k rest σ K)
  | .stuck _ _ => False

theorem putS_none {s : Nat → V} {x : V} : putS s none x = s := rfl
theorem putS_some {s : Nat → V} {d : Nat} {x : V} : putS s (some d) x = upd s d x := rfl
theorem lk_setO (σ : S) (d : Option Nat) (x : V) : lk (σ.setO d x).sl = putS (lk σ.sl) d x := by
  cases d with
  | none => rfl
  | some d => simp only [S.setO, S.set, lk_cons, putS]
theorem mem_setO (σ : S) (d : Option Nat) (x : V) : (σ.setO d x).mem = σ.mem := by cases d <;> rfl
theorem mn_setO (σ : S) (d : Option Nat) (x : V) : (σ.setO d x).mn = σ.mn := by cases d <;> rfl

theorem ovr_one (M : Mem) (b : Nat) (v : Option (List V)) : ovr M [b] (fun _ => v) = upd M b v := by
  funext k
  unfold ovr upd
  by_cases h : k = b <;> simp [h]
theorem ovr_nil (M vs : Mem) : ovr M [] vs = M := by
  funext k
  simp [ovr]

/-- What leaves the memory alone has any class but 3. -/
theorem YM.free {ops : List Oper} {n0 cls : Nat} {o : Oper} {s : Nat → V} {M : Mem} {n : Nat} {x : V} (hn : n0 ≤ n) (hc : cls ≠ 3) (h5 : cls ≤ 5) {dm : List Nat} (hdm : ∀ t ∈ dm, t ∈ exOf C.T o) (h : ∀ M2 n2, Does P E C ops o s M2 n2 x M2 n2 dm) : YM P E C ops n0 cls o s M n x M n dm := by
  have : cls = 0 ∨ cls = 1 ∨ cls = 2 ∨ cls = 4 ∨ cls = 5 := by omega
  rcases this with rfl | rfl | rfl | rfl | rfl
  · exact ⟨hn, hdm, rfl, rfl, h⟩
  · exact ⟨hn, hdm, rfl, rfl, [], fun M2 n2 _ => h M2 n2⟩
  · exact ⟨hn, hdm, rfl, [], M, (ovr_nil _ _).symm, fun M2 n2 _ => by rw [ovr_nil]; exact h M2 n2⟩
  · exact ⟨hn, hdm, rfl, rfl, [], by simp, fun M2 n2 _ => h M2 n2⟩
  · exact ⟨hn, hdm, rfl, [], M, by simp, (ovr_nil _ _).symm, fun M2 n2 _ => by rw [ovr_nil]; exact h M2 n2⟩

theorem nodm {o : Oper} {T : List Nat} : ∀ t ∈ ([] : List Nat), t ∈ exOf T o := fun _ h => by cases h

theorem takB_ym (Θ : CtxB P E C) {o : Oper} {d : Nat} {x : Operand} {r : R1} {σ σ' : S} {c : Prop} (hn : Θ.n0 ≤ σ.mn) (hd : o.dst = some d) (hw : wantedV Θ.ops (lk σ.sl) o = some true) (hop : o.op = .assign x ∨ (o.op = .move x ∧ C.T.contains d = true)) (h : takB C σ d x r = .ok c σ') (hc : c)
    (hr : r = .ok c σ' → ∃ x dm, YM P E C Θ.ops Θ.n0 0 o (lk σ.sl) σ.mem σ.mn x σ'.mem σ'.mn dm ∧ lk σ'.sl = putD (lk σ.sl) dm o.dst x ∧ Θ.n0 ≤ σ'.mn) :
    ∃ x dm, YM P E C Θ.ops Θ.n0 0 o (lk σ.sl) σ.mem σ.mn x σ'.mem σ'.mn dm ∧ lk σ'.sl = putD (lk σ.sl) dm o.dst x ∧ Θ.n0 ≤ σ'.mn := by
  unfold takB at h
  split at h
  · rename_i i
    split at h
    · rename_i own sz m cs hi
      split at h
      · cases h
        refine ⟨.sl true sz m cs, [i], YM.free hn (by decide) (by decide) (fun t ht => ?_) (fun M2 n2 => Does.take Θ.dst hd hw (hop.imp id And.left) hi M2 n2), ?_, hn⟩
        · rw [List.mem_singleton] at ht; subst ht
          unfold exOf
          rcases hop with h | ⟨h, hT⟩
          · rw [h]; simp
          · rw [h]; simp only [hd, hT, if_true]; simp
        · rw [putD, dem_one hi, hd]
          simp only [lk_cons, putS]
      · exact hr h
    · exact hr h
  · exact hr h

theorem val_ym (Θ : CtxB P E C) {o : Oper} {d : Nat} {σ σ' : S} {c : Prop} (hn : Θ.n0 ≤ σ.mn) (hd : o.dst = some d) (hw : wantedV Θ.ops (lk σ.sl) o = some true) (h : valB σ d (rowB C (evO (lk σ.sl) C.gl) o.op) = .ok c σ') (hc : c) :
    ∃ x dm, YM P E C Θ.ops Θ.n0 0 o (lk σ.sl) σ.mem σ.mn x σ'.mem σ'.mn dm ∧ lk σ'.sl = putD (lk σ.sl) dm o.dst x ∧ Θ.n0 ≤ σ'.mn := by
  unfold valB at h
  split at h <;> cases h
  rename_i x he
  exact ⟨x, [], YM.free hn (by decide) (by decide) nodm (fun M2 n2 => Does.row Θ.H Θ.L Θ.G Θ.dst hd hw he hc M2 n2), by rw [putD_nil, hd]; simp only [S.set, lk_cons, putS], hn⟩

theorem zeroB_ym (Θ : CtxB P E C) {o : Oper} {d : Nat} {σ σ' : S} {c : Prop} (hn : Θ.n0 ≤ σ.mn) (hd : o.dst = some d) (hw : wantedV Θ.ops (lk σ.sl) o = some true) (h : zeroB C o σ d = .ok c σ') (hc : c) :
    ∃ x dm, YM P E C Θ.ops Θ.n0 0 o (lk σ.sl) σ.mem σ.mn x σ'.mem σ'.mn dm ∧ lk σ'.sl = putD (lk σ.sl) dm o.dst x ∧ Θ.n0 ≤ σ'.mn := by
  unfold zeroB at h
  split at h
  · rename_i x hop
    exact takB_ym Θ hn hd hw (.inl hop) h hc (fun h => val_ym Θ hn hd hw (by rw [hop]; exact h) hc)
  · rename_i x hop
    split at h
    · rename_i hT
      exact takB_ym Θ hn hd hw (.inr ⟨hop, hT⟩) h hc (fun h => val_ym Θ hn hd hw (by rw [hop]; exact h) hc)
    · exact val_ym Θ hn hd hw (by rw [hop]; exact h) hc
  · rename_i cl hop
    obtain ⟨callee, args, ats⟩ := cl
    simp only at h
    split at h
    · rename_i b
      split at h
      · split at h <;> try cases h
        rename_i x y t xt e1 e2
        have e1' : args = #[x, y] := by apply Array.ext'; exact e1
        have e2' : ats = #[t, xt] := by apply Array.ext'; exact e2
        subst e1' e2'
        unfold apdB at h
        split at h <;> try cases h
        rename_i ti ht
        split at h <;> try cases h
        rename_i e hte
        split at h <;> try cases h
        rename_i ei he
        split at h <;> try cases h
        rename_i xi hxt
        split at h <;> try cases h
        rename_i c' k xs hs
        split at h <;> try cases h
        rename_i i
        split at h <;> try cases h
        rename_i own sz m cs hi
        split at h <;> cases h
        obtain ⟨c1, c2, c3, rfl, c5, c6, c7, c8⟩ := hc
        refine ⟨_, [i], YM.free hn (by decide) (by decide) (fun q hq => ?_) (fun M2 n2 => Does.app Θ.H Θ.G Θ.dst hop hd hw ht hte he hxt c2 c3 hi hs c1 c5 c6 c7 c8 M2 n2), ?_, hn⟩
        · rw [List.mem_singleton] at hq; subst hq
          unfold exOf
          rw [hop]; simp
        · rw [putD, dem_one hi, hd]
          simp only [lk_cons, putS]
      · exact val_ym Θ hn hd hw (by rw [hop]; exact h) hc
    · exact val_ym Θ hn hd hw (by rw [hop]; exact h) hc
  · exact val_ym Θ hn hd hw h hc

theorem stepB_ym (Θ : CtxB P E C) {cls : Nat} {o : Oper} {σ σ' : S} {c : Prop} (hn : Θ.n0 ≤ σ.mn) (hw : wantedV Θ.ops (lk σ.sl) o = some true) (h : stepB C cls o σ = .ok c σ') (hc : c) :
    ∃ x dm, YM P E C Θ.ops Θ.n0 cls o (lk σ.sl) σ.mem σ.mn x σ'.mem σ'.mn dm ∧ lk σ'.sl = putD (lk σ.sl) dm o.dst x ∧ Θ.n0 ≤ σ'.mn := by
  unfold stepB at h
  split at h
  · split at h <;> try cases h
    rename_i d hd
    exact zeroB_ym Θ hn hd hw h hc
  · split at h <;> try cases h
    rename_i d hd
    split at h
    · cases h
      rename_i x he
      exact ⟨x, [], YM.free hn (by decide) (by decide) nodm (fun M2 n2 => Does.row Θ.H Θ.L Θ.G Θ.dst hd hw he hc M2 n2), by rw [putD_nil, hd]; simp only [S.set, lk_cons, putS], hn⟩
    · unfold valB at h
      split at h <;> cases h
      rename_i x he
      refine ⟨x, [], ⟨hn, nodm, rfl, rfl, boxOf (evO (lk σ.sl) C.gl) o.op, fun M2 n2 ha => ?_⟩, by rw [putD_nil, hd]; simp only [S.set, lk_cons, putS], hn⟩
      exact Does.ev Θ.H Θ.L Θ.G Θ.dst hd hw (by rw [evC_agree ha]; exact he) hc
  · split at h <;> try cases h
    rename_i t x y hop
    split at h <;> try cases h
    rename_i hd
    unfold stoB at h
    split at h <;> try cases h
    rename_i ti ht
    split at h <;> try cases h
    rename_i b off hx
    split at h <;> cases h
    rename_i cs hb
    obtain ⟨c1, c2, c3, c4⟩ := hc
    refine ⟨.unk, [], ⟨hn, nodm, rfl, [b], fun _ => some (putV cs off ((evO (lk σ.sl) C.gl y).cells.map V.fz)), (ovr_one _ _ _).symm, fun M2 n2 ha => ?_⟩, by rw [putD_nil, hd]; rfl, hn⟩
    rw [ovr_one]
    exact Does.store Θ.H Θ.G Θ.dst hop hd hw ht hx c1 (by rw [ha b (by simp)]; exact hb) c2 c3 c4
  · split at h <;> try cases h
    · rename_i t hop
      split at h <;> try cases h
      rename_i d hd
      unfold alcB at h
      split at h <;> try cases h
      rename_i i hi
      split at h <;> cases h
      rename_i hz
      refine ⟨.bp σ.mn 0, [], ⟨hn, nodm, i.zero, rfl, rfl, rfl, fun M2 n2 => Does.alloc Θ.H Θ.dst hop hd hw hi hz⟩, by rw [putD_nil, hd]; simp only [lk_cons, putS], ?_⟩
      show Θ.n0 ≤ σ.mn + 1
      omega
    · rename_i t y hop
      split at h <;> try cases h
      rename_i d hd
      refine ⟨.bp σ.mn 0, [], ⟨hn, nodm, _, rfl, rfl, rfl, fun M2 n2 => Does.box Θ.H Θ.G Θ.dst hop hd hw hc.1 hc.2⟩, by rw [putD_nil, hd]; simp only [lk_cons, putS], ?_⟩
      show Θ.n0 ≤ σ.mn + 1
      omega
  · cases h

theorem WRB.of_run (Θ : CtxB P E C) (h5 : ∀ k op, Θ.cl k op ≤ 5) (K : S → Prop) : ∀ (rest : List Oper) (k : Nat) (σ : S) (c : Prop), Θ.ops.drop k = rest → PostB Θ (runB C Θ.cl (Θ.ops.map (·.dst)) k rest σ c) K →
    c ∧ (Θ.n0 ≤ σ.mn → LB P E C Θ.ops Θ.n0 Θ.cl (fun s M n => ∃ σ', lk σ'.sl = s ∧ σ'.mem = M ∧ σ'.mn = n ∧ K σ') rest k (lk σ.sl) σ.mem σ.mn)
  | [], k, σ, c, _, h => ⟨h.1, fun _ => ⟨σ, rfl, rfl, rfl, h.2⟩⟩
  | o :: rest, k, σ, c, hk, h => by
    simp only [runB] at h
    obtain ⟨k1, k2⟩ := drop_cons hk
    cases hw : wantV (Θ.ops.map (·.dst)) (lk σ.sl) o.guard with
    | none =>
      rw [hw] at h
      exact ⟨h.1, fun hn => splitG_elim h.2 hn hk⟩
    | some b =>
      rw [hw] at h
      have hw' := wantV_eq Θ.ops _ o hw
      cases b with
      | false =>
        simp only at h
        obtain ⟨⟨h1, h3⟩, h2⟩ := WRB.of_run Θ h5 K rest (k + 1) _ _ k2 h
        refine ⟨h1, fun hn => ⟨.tup [], σ.mem, σ.mn, [], YM.free hn h3 (h5 _ _) nodm (fun M2 n2 => Does.skip Θ.dst hw'), ?_⟩⟩
        rw [putD_nil]
        have := h2 (by rw [mn_setO]; exact hn)
        rwa [lk_setO, mem_setO, mn_setO] at this
      | true =>
        simp only at h
        cases hc : runA.isCall o.op with
        | some p =>
          obtain ⟨f, xs⟩ := p
          rw [hc] at h
          simp only at h
          obtain ⟨ys, ats, e1, e2⟩ := isCall_spec hc
          cases hd : o.dst with
          | none => rw [hd] at h; exact h.elim
          | some d =>
            rw [hd] at h
            exact ⟨h.1, fun hn => h.2 hn hk rfl hd hw' ⟨ys, ats, e1, by rw [e2]⟩⟩
        | none =>
          rw [hc] at h
          simp only at h
          cases hs : stepB C (Θ.cl k o.op) o σ with
          | ok c' σ' =>
            rw [hs] at h
            obtain ⟨⟨h1, h3⟩, h2⟩ := WRB.of_run Θ h5 K rest (k + 1) _ _ k2 h
            refine ⟨h1, fun hn => ?_⟩
            obtain ⟨x, dm, q1, q2, q3⟩ := stepB_ym Θ hn hw' hs h3
            refine ⟨x, σ'.mem, σ'.mn, dm, q1, ?_⟩
            have := h2 q3
            rwa [q2] at this
          | call _ _ => rw [hs] at h; exact h.elim
          | stuck => rw [hs] at h; exact h.elim

/-- A call that leaves the memory alone, whatever it is. -/
theorem CallB.free {Θ : CtxB P E C} {k cls : Nat} {o : Oper} {rest : List Oper} {d : Nat} {f : FuncId} {args : List V} {σ : S} {K : S → Prop} (x : V) (hs : ∀ M n, Sp P C.gl f args M n (fun r m k => r = x ∧ m = M ∧ k = n)) (hc : (cls ≠ 3 ∧ cls ≤ 5) = True) (hk : ∀ x ∈ args, x.known = true)
    (h : WRB Θ (k + 1) rest (σ.set d x) K) : CallB Θ k cls o rest d f args σ K := by
  rintro hn hd' hcl hd hw ⟨xs, ats, hop, rfl⟩
  obtain ⟨k1, k2⟩ := drop_cons hd'
  have hc' := of_eq_true hc
  refine ⟨x, σ.mem, σ.mn, [], YM.free hn (by rw [hcl]; exact hc'.1) (by rw [hcl]; exact hc'.2) nodm (fun M2 n2 => ?_), ?_⟩
  · exact Does.call Θ.dst Θ.G hd hw hop (fun y hy => hk _ (List.mem_map.2 ⟨y, hy, rfl⟩)) rfl (hs M2 n2)
  · have := h hn k2
    rw [S.set, lk_cons] at this
    rw [putD_nil, hd]
    exact this
/-- A library function for which the model stands in. -/
theorem CallB.ext {Θ : CtxB P E C} {k cls : Nat} {o : Oper} {rest : List Oper} {d : Nat} {f : FuncId} {args : List V} {σ : S} {K : S → Prop} (x : V) (hs : ∀ M, SpX P f args M x) (hc : (cls ≠ 3 ∧ cls ≤ 5) = True)
    (h : WRB Θ (k + 1) rest (σ.set d x) K) : CallB Θ k cls o rest d f args σ K := by
  rintro hn hd' hcl hd hw ⟨xs, ats, hop, rfl⟩
  obtain ⟨k1, k2⟩ := drop_cons hd'
  have hc' := of_eq_true hc
  refine ⟨x, σ.mem, σ.mn, [], YM.free hn (by rw [hcl]; exact hc'.1) (by rw [hcl]; exact hc'.2) nodm (fun M2 n2 => ?_), ?_⟩
  · exact Does.ext Θ.dst Θ.G hd hw hop rfl (hs M2)
  · have := h hn k2
    rw [S.set, lk_cons] at this
    rw [putD_nil, hd]
    exact this
/-- A call that reads boxes (class 1 or 4). -/
theorem CallB.read {Θ : CtxB P E C} {k cls : Nat} {o : Oper} {rest : List Oper} {d : Nat} {f : FuncId} {args : List V} {σ : S} {K : S → Prop} (x : V) (bs : List Nat) (hs : ∀ M n, Agree M σ.mem bs → Sp P C.gl f args M n (fun r m k => r = x ∧ m = M ∧ k = n))
    (hc : (cls = 1 ∨ (cls = 4 ∧ ∀ b ∈ bs, b < Θ.n0))) (hk : ∀ x ∈ args, x.known = true)
    (h : WRB Θ (k + 1) rest (σ.set d x) K) : CallB Θ k cls o rest d f args σ K := by
  rintro hn hd' hcl hd hw ⟨xs, ats, hop, rfl⟩
  obtain ⟨k1, k2⟩ := drop_cons hd'
  have hdo : ∀ M2 n2, Agree M2 σ.mem bs → Does P E C Θ.ops o (lk σ.sl) M2 n2 x M2 n2 [] := fun M2 n2 ha => Does.call Θ.dst Θ.G hd hw hop (fun y hy => hk _ (List.mem_map.2 ⟨y, hy, rfl⟩)) rfl (hs M2 n2 ha)
  refine ⟨x, σ.mem, σ.mn, [], ?_, ?_⟩
  · rw [hcl]
    rcases hc with rfl | ⟨rfl, hb⟩
    · exact ⟨hn, nodm, rfl, rfl, bs, hdo⟩
    · exact ⟨hn, nodm, rfl, rfl, bs, hb, hdo⟩
  · have := h hn k2
    rw [S.set, lk_cons] at this
    rw [putD_nil, hd]
    exact this
/-- A call that writes one box (class 2 or 5). -/
theorem CallB.write {Θ : CtxB P E C} {k cls : Nat} {o : Oper} {rest : List Oper} {d : Nat} {f : FuncId} {args : List V} {σ : S} {K : S → Prop} (x : V) (b : Nat) (cs : List V) (hs : ∀ M n, M b = σ.mem b → Sp P C.gl f args M n (fun r m k => r = x ∧ m = upd M b (some cs) ∧ k = n))
    (hc : (cls = 2 ∨ (cls = 5 ∧ b < Θ.n0))) (hk : ∀ x ∈ args, x.known = true)
    (h : WRB Θ (k + 1) rest { sl := (d, x) :: σ.sl, mem := upd σ.mem b (some cs), mn := σ.mn } K) : CallB Θ k cls o rest d f args σ K := by
  rintro hn hd' hcl hd hw ⟨xs, ats, hop, rfl⟩
  obtain ⟨k1, k2⟩ := drop_cons hd'
  have hdo : ∀ M2 n2, Agree M2 σ.mem [b] → Does P E C Θ.ops o (lk σ.sl) M2 n2 x (ovr M2 [b] (fun _ => some cs)) n2 [] := fun M2 n2 ha => by
    rw [ovr_one]
    exact Does.call Θ.dst Θ.G hd hw hop (fun y hy => hk _ (List.mem_map.2 ⟨y, hy, rfl⟩)) rfl (hs M2 n2 (ha b (by simp)))
  refine ⟨x, upd σ.mem b (some cs), σ.mn, [], ?_, ?_⟩
  · rw [hcl]
    rcases hc with rfl | ⟨rfl, hb⟩
    · exact ⟨hn, nodm, rfl, [b], fun _ => some cs, (ovr_one _ _ _).symm, hdo⟩
    · exact ⟨hn, nodm, rfl, [b], fun _ => some cs, by simpa using hb, (ovr_one _ _ _).symm, hdo⟩
  · have := h hn k2
    simp only [lk_cons] at this
    rw [putD_nil, hd]
    exact this

theorem WRB.go {Θ : CtxB P E C} {k : Nat} {rest : List Oper} {σ : S} {K : S → Prop} {ds : List (Option Nat)} {cl : Cl} (h5 : ∀ k op, cl k op ≤ 5) (hds : ds = Θ.ops.map (·.dst)) (hcl : cl = Θ.cl) (h : PostB Θ (runB C cl ds k rest σ True) K) : WRB Θ k rest σ K := by
  subst hcl
  intro hn hj
  exact (WRB.of_run Θ h5 K rest k σ True hj (hds ▸ h)).2 hn

/-- A guard that isn't decided: both ways. -/
theorem WRB.split {Θ : CtxB P E C} {k : Nat} {rest : List Oper} {σ : S} {K : S → Prop} (t : Bool) (h1 : t = true → WRB Θ k rest σ K) (h0 : t = false → WRB Θ k rest σ K) : WRB Θ k rest σ K := by
  cases t
  · exact h0 rfl
  · exact h1 rfl
theorem WR.split {Θ : Ctx P E C} {rest : List Oper} {σ : S} {K : S → Prop} (t : Bool) (h1 : t = true → WR Θ rest σ K) (h0 : t = false → WR Θ rest σ K) : WR Θ rest σ K := by
  cases t
  · exact h0 rfl
  · exact h1 rfl

theorem lk_big {nt : Nat} : ∀ (l : List (Nat × V)), (l.all fun p => decide (p.1 < nt)) = true → ∀ t, nt ≤ t → lk l t = .unk
  | [], _, _, _ => rfl
  | (j, x) :: l, h, t, ht => by
    simp only [List.all_cons, Bool.and_eq_true, decide_eq_true_eq] at h
    simp only [lk]
    rw [if_neg (by have := h.1; omega)]
    exact lk_big l h.2 t ht

theorem WC.regionB (cl : Cl) (hH : EnvOk P C.H) (hL : LEnvOk P C.L) (hG : GlOk E.g0 E.w0 C.gl) (hm : P.follows .mixedOrders = true) {id : Nat} {ops : Array Oper} {σ : S} {Q : QC} (hd : dstOk C.nt ops.toList = true) (h5 : ∀ k op, cl k op ≤ 5) (hsl : (σ.sl.all fun p => decide (p.1 < C.nt)) = true)
    (hB : lexC C.T ops cl ops.size 0 (Array.replicate ops.size false) = true)
    (h : ∀ (Θ : CtxB P E C) (K : S → Prop), Θ.ops = ops.toList → Θ.cl = cl → Θ.n0 = σ.mn → (∀ σ, Q .normal σ → K σ) → PostB Θ (runB C cl (ops.toList.map (·.dst)) 0 ops.toList σ True) K) : WC P E C (.region id ops true) σ Q := by
  intro a w hA
  refine wp_region_any hm ?_
  have h1 := (WRB.of_run (⟨ops.toList, cl, σ.mn, hd, hH, hL, hG⟩ : CtxB P E C) h5 (fun σ => Q .normal σ) ops.toList 0 σ True rfl (h _ _ rfl rfl rfl (fun _ k => k))).2 (Nat.le_refl _)
  have h2 := anyB_lex (P := P) (E := E) (C := C) (ops := ops.toList) (n0 := σ.mn) (cl := cl) ops.toList 0 (Array.replicate ops.size false) (lk σ.sl) σ.mem σ.mn (fun j => by simp) (by simpa using hB) h1
  obtain ⟨g, ob, k1, k2, k3, k4⟩ := hA
  have h3 := anyB_sound (Q := fun e a' w' => ∃ σ', At E C.nt σ' a' w' ∧ Q e σ') (fun s M n a' w' hA' ⟨σ', e1, e2, e3, hq⟩ => ⟨σ', by
    obtain ⟨⟨g, ob, q1, q2, q3, q4⟩, _⟩ := hA'
    exact ⟨g, ob, by rw [e1, e2]; exact q1, by rw [e3]; exact q2, q3, q4⟩, hq⟩) ops.toList.length _ (lk σ.sl) σ.mem σ.mn a { w with drawn := w.drawn + 1 } ⟨⟨g, ob, k1.drew, k2, k3, k4⟩, lk_big _ hsl⟩ h2
  simpa using h3

theorem WC.regionBTo (mid : S) (cl : Cl) (hH : EnvOk P C.H) (hL : LEnvOk P C.L) (hG : GlOk E.g0 E.w0 C.gl) (hm : P.follows .mixedOrders = true) {id : Nat} {ops : Array Oper} {σ : S} {Q : QC} (hd : dstOk C.nt ops.toList = true) (h5 : ∀ k op, cl k op ≤ 5) (hsl : (σ.sl.all fun p => decide (p.1 < C.nt)) = true)
    (hB : lexC C.T ops cl ops.size 0 (Array.replicate ops.size false) = true)
    (h : ∀ (Θ : CtxB P E C) (K : S → Prop), Θ.ops = ops.toList → Θ.cl = cl → Θ.n0 = σ.mn → (∀ σ, Sub E C.nt σ mid → K σ) → PostB Θ (runB C cl (ops.toList.map (·.dst)) 0 ops.toList σ True) K) (h2 : Q .normal mid) : WC P E C (.region id ops true) σ Q := by
  have h3 : WC P E C (.region id ops true) σ (fun e s => (e = .normal ∧ Sub E C.nt s mid)) := WC.regionB cl hH hL hG hm hd h5 hsl hB (fun Θ K h1 h2 h3 hK => h Θ K h1 h2 h3 (fun s hs => hK s ⟨rfl, hs⟩))
  intro a w hA
  refine wp_mono (h3 a w hA) ?_
  rintro e a' w' ⟨s, k1, rfl, k2⟩
  exact ⟨mid, k2 a' w' k1, h2⟩

theorem defCl_le (k : Nat) (op : Op) : defCl k op ≤ 5 := by
  unfold defCl; split <;> decide
theorem clW_le {l : List (Nat × Nat)} (h : (l.all fun p => decide (p.2 ≤ 5)) = true) (k : Nat) (op : Op) : clW l defCl k op ≤ 5 := by
  unfold clW
  split
  · rename_i p hp
    have := List.all_eq_true.1 h p (List.mem_of_find?_eq_some hp)
    simpa using this
  · exact defCl_le _ _

end Go.VL
