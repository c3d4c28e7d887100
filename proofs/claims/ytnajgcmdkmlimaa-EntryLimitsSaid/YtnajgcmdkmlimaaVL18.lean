/- Part VL18 of the proof: made for this claim. -/
import Derived.Test.YtnajgcmdkmlimaaVL17
import Derived.BigCall
/-! VL part 18: code. -/
set_option linter.unusedVariables false
set_option linter.unusedSimpArgs false
open Go.RowKit
namespace Go.VL
variable {P : Program} {E : Entry} {w : World} {C : Cfg}

/-! ### Guards -/
def wantedV (ops : List Oper) (s : Nat → V) (o : Oper) : Option Bool := match o.guard with
  | none => some true
  | some (j, want) => match (ops[j]?).bind (·.dst) with
    | some d => match s d with
      | .flat v => match v with
        | .bool t => some (t == want)
        | _ => none
      | .tup vs => match vs with
        | [] => some false
        | _ :: _ => none
      | _ => none
    | none => none
theorem wantedV_rel {g : G} {s : Nat → V} {tm : Array Value} (hs : ∀ i, s i ≠ .unk → VR g w (s i) (tm.getD i undef)) {nt : Nat} (hnt : tm.size = nt) {ops : List Oper} {o : Oper} {b : Bool} (h : wantedV ops s o = some b) (hd : ∀ d, (ops.any fun o => o.dst == some d) = true → d < nt) :
    Region.wanted o (yielded ops.toArray tm) = b := by
  unfold wantedV at h
  unfold Region.wanted
  cases hg : o.guard with
  | none => rw [hg] at h; cases h; rfl
  | some jw =>
    obtain ⟨j, want⟩ := jw
    rw [hg] at h
    simp only at h ⊢
    cases ho : ops[j]? with
    | none => rw [ho] at h; cases h
    | some oj =>
      rw [ho] at h
      simp only [Option.bind_some] at h
      cases hdd : oj.dst with
      | none => rw [hdd] at h; cases h
      | some d =>
        rw [hdd] at h
        simp only at h
        have hlt : d < tm.size := by
          rw [hnt]
          refine hd d ?_
          rw [List.any_eq_true]
          exact ⟨oj, List.mem_of_getElem? ho, by rw [hdd]; simp⟩
        have hy : yielded ops.toArray tm j = match tm[d] with | .bool b => some b | _ => none := by
          unfold yielded
          simp only [List.getElem?_toArray, ho, Option.bind_some, hdd, Array.getElem?_eq_getElem hlt]
          cases tm[d] <;> rfl
        rw [hy]
        have hv := hs d
        have e : tm.getD d undef = tm[d] := by simp [Array.getD_eq_getD_getElem?, hlt]
        rw [e] at hv
        generalize tm[d] = u at hv
        cases hsd : s d with
        | flat v =>
          rw [hsd] at h hv
          have := hv (by simp)
          cases this
          cases u <;> simp only [reduceCtorEq] at h
          cases h
          simp
        | tup vs =>
          rw [hsd] at h hv
          have := hv (by simp)
          cases vs with
          | nil =>
            cases h
            cases this
            simp
          | cons _ _ => cases h
        | _ => rw [hsd] at h; cases h

/-! ### A region that is carried out in its own order -/
/-- From operation k on. -/
def WL (P : Program) (E : Entry) (nt : Nat) (ops : List Oper) (k : Nat) (σ : S) (K : S → Prop) : Prop :=
  ∀ Q : Exit → Act → World → Prop, (∀ σ' a w, At E nt σ' a w → K σ' → Q .normal a w) → ∀ a w, At E nt σ a w → wpOps P ops.toArray Q ((List.range ops.length).drop k) a w

theorem range_drop {n k : Nat} (h : k < n) : (List.range n).drop k = k :: (List.range n).drop (k + 1) := by
  rw [List.drop_eq_getElem_cons (by simpa using h)]
  simp
theorem range_drop_end {n k : Nat} (h : n ≤ k) : (List.range n).drop k = [] := List.drop_eq_nil_of_le (by simpa using h)

theorem WL.nil {nt : Nat} {ops : List Oper} {k : Nat} {σ : S} {K : S → Prop} (hk : ops.length ≤ k) (h : K σ) : WL P E nt ops k σ K := by
  intro Q hQ a w hA
  rw [range_drop_end hk]
  exact hQ σ a w hA h

/-- Every temporary that the operations write is there. -/
def dstOk (nt : Nat) (ops : List Oper) : Bool := ops.all fun o => match o.dst with | some d => decide (d < nt) | none => true
theorem dstOk_any {nt : Nat} {ops : List Oper} (h : dstOk nt ops = true) (d : Nat) (hd : (ops.any fun o => o.dst == some d) = true) : d < nt := by
  rw [List.any_eq_true] at hd
  obtain ⟨o, ho, he⟩ := hd
  unfold dstOk at h
  rw [List.all_eq_true] at h
  have := h o ho
  rw [eq_of_beq he] at this
  simpa using this

theorem wpOps_at {ops : List Oper} {k : Nat} {o : Oper} (ho : ops[k]? = some o) {Q : Exit → Act → World → Prop} {rest : List Nat} {a : Act} {w : World} :
    wpOps P ops.toArray Q (k :: rest) a w = if Region.wanted o (yielded ops.toArray a.tmps) then o.wp P a w (wpOps P ops.toArray Q rest) Q ∨ (o.asks P a w ∧ LetsOut Q) else wpOps P ops.toArray Q rest (a.put o.dst undef) w := by
  have h1 : ops.toArray[k]? = some o := by simpa using ho
  simp only [wpOps, h1]

theorem WL.step {nt : Nat} {ops : List Oper} (hdst : dstOk nt ops = true) {k : Nat} {o : Oper} {σ σ' : S} {K : S → Prop} (ho : ops[k]? = some o) (hw : wantedV ops (lk σ.sl) o = some true) (hs : StepTo P E nt o σ σ') (h : WL P E nt ops (k + 1) σ' K) : WL P E nt ops k σ K := by
  intro Q hQ a w hA
  have hk : k < ops.length := (List.getElem?_eq_some_iff.1 ho).1
  rw [range_drop hk, wpOps_at ho]
  obtain ⟨g, hsl, hbx, hon⟩ := hA.slots
  obtain ⟨_, _, _, _, _, hnt⟩ := id hA
  rw [wantedV_rel hsl hnt hw (dstOk_any hdst), if_pos rfl]
  left
  rcases hs a w hA with ⟨v, w', r1, r2⟩ | ⟨w', r1, r2⟩
  · simp only [Oper.wp, r1, Oper.upon]
    exact h Q hQ _ _ r2
  · simp only [Oper.wp, r1, Oper.upon]
    exact h Q hQ _ _ r2

/-- A slot of an operation that isn't wanted. -/
def S.setU (σ : S) (d : Option Nat) : S := match d with
  | some d => σ.set d (.tup [])
  | none => σ
theorem At.setU {nt : Nat} {σ : S} {a : Act} {w : World} (h : At E nt σ a w) {d : Option Nat} (hd : ∀ i, d = some i → i < nt) : At E nt (σ.setU d) (a.put d undef) w := by
  cases d with
  | none => exact h
  | some d =>
    obtain ⟨g, ob, h1, h2, h3, h4⟩ := h
    refine ⟨g, ob, ?_, h2, h3, by rw [put_some]; simpa using h4⟩
    rw [put_some]
    simp only [S.setU, S.set, lk_cons]
    exact h1.put (by have := hd d rfl; omega) (fun _ => .tup [] #[] rfl (fun i hi => by simp at hi)) (fun j sz n cs k => by simp [comp] at k)

theorem WL.skip {nt : Nat} {ops : List Oper} (hdst : dstOk nt ops = true) {k : Nat} {o : Oper} {σ : S} {K : S → Prop} (ho : ops[k]? = some o) (hw : wantedV ops (lk σ.sl) o = some false) (h : WL P E nt ops (k + 1) (σ.setU o.dst) K) : WL P E nt ops k σ K := by
  intro Q hQ a w hA
  have hk : k < ops.length := (List.getElem?_eq_some_iff.1 ho).1
  rw [range_drop hk, wpOps_at ho]
  obtain ⟨g, hsl, hbx, hon⟩ := hA.slots
  obtain ⟨_, _, _, _, _, hnt⟩ := id hA
  rw [wantedV_rel hsl hnt hw (dstOk_any hdst), if_neg (by simp)]
  refine h Q hQ _ _ (hA.setU (fun i hi => dstOk_any hdst i ?_))
  rw [List.any_eq_true]
  exact ⟨o, List.mem_of_getElem? ho, by rw [hi]; simp⟩

/-- What a call leaves. -/
def S.back (σ : S) (d : Nat) (r : V) (mem : Nat → Option (List V)) (mn : Nat) : S := { sl := (d, r) :: σ.sl, mem := mem, mn := mn }

theorem run_callFunc {f : FuncId} {fn : Func} (hf : P.funcs[f]? = some fn) (hn : (fn.name == "runtime.NumGoroutine") = false) (hb : fn.body.isNone = false) (args : Array Value) : (callFunc f args).run P w = .ok (.enter f args) w := by
  simp only [callFunc, Sem.run_bind, run_program, Result.andThen_ok, hf, hn, hb, Bool.false_eq_true, if_false, Sem.run_pure]

theorem WL.call {ops : List Oper} (hdst : dstOk C.nt ops = true) (hG : GlOk E.g0 E.w0 C.gl) {k : Nat} {o : Oper} {σ : S} {K : S → Prop} {f : FuncId} {xs : Array Operand} {ats : Array TypeId} {d : Nat} (ho : ops[k]? = some o) (hd : o.dst = some d) (hop : o.op = .call { callee := .value (.func f), args := xs, argTypes := ats })
    (hw : wantedV ops (lk σ.sl) o = some true) {args : List V} (hargs : args = xs.toList.map fun x => (evO (lk σ.sl) C.gl x).fz) {R : V → (Nat → Option (List V)) → Nat → Prop} (hs : Sp P C.gl f args σ.mem σ.mn R)
    (hk : ∀ x ∈ args, x.known = true) (h : ∀ r mem mn, R r mem mn → WL P E C.nt ops (k + 1) (σ.back d r mem mn) K) : WL P E C.nt ops k σ K := by
  intro Q hQ a w hA
  have hkl : k < ops.length := (List.getElem?_eq_some_iff.1 ho).1
  rw [range_drop hkl, wpOps_at ho]
  obtain ⟨g, ob, h1, h2, h3, h4⟩ := hA
  rw [wantedV_rel h1.slot h4 hw (dstOk_any hdst), if_pos rfl]
  left
  obtain ⟨⟨fn, hf, hn, hb⟩, hcall⟩ := hs
  have hrun : (execOp a.eval o).run P w = .ok (.enter f (#[] ++ xs.map a.eval ++ #[])) w := by
    obtain ⟨dst, op, ty, pos, after, guard⟩ := o
    simp only at hop
    subst hop
    exact run_callFunc hf hn hb _
  simp only [Oper.wp, hrun, Oper.upon, Array.empty_append, Array.append_empty]
  have hc := hcall g (cellsOnly ob) w (xs.map a.eval) h2 (hG.onto h1.onto) (by rw [hargs]; simp) (fun i hi => by
    rw [hargs] at hi ⊢
    simp only [List.length_map, Array.length_toList] at hi
    have e1 : (xs.toList.map fun x => (evO (lk σ.sl) C.gl x).fz).getD i .unk = (evO (lk σ.sl) C.gl xs[i]).fz := by simp [List.getD_eq_getElem?_getD, Array.getElem?_eq_getElem hi]
    have e2 : (xs.map a.eval).getD i undef = a.eval xs[i] := by simp [Array.getD_eq_getD_getElem?, Array.getElem?_eq_getElem hi]
    rw [e1, e2]
    have hne : evO (lk σ.sl) C.gl xs[i] ≠ .unk := by
      intro hu
      have := hk ((evO (lk σ.sl) C.gl xs[i]).fz) (by rw [hargs]; exact List.mem_map.2 ⟨xs[i], by simp, rfl⟩)
      rw [hu] at this
      cases this
    exact (evO_rel (d := a.defers) h1.slot (hG.onto h1.onto) xs[i] hne).fz) (fun i j => rfl) h1.handOver
  refine hc.mono ?_
  rintro e w' ⟨v, r, mem', g', ob', rfl, hR, hru, hst⟩
  have hres := h r mem' g'.mn hR
  simp only
  rw [hd]
  have hdl : d < a.tmps.size := by
    rw [h4]
    refine dstOk_any hdst d ?_
    rw [List.any_eq_true]
    exact ⟨o, List.mem_of_getElem? ho, by rw [hd]; simp⟩
  refine hres Q hQ _ _ ⟨g', joinOb ob ob' d, ?_, rfl, h3, by rw [put_some]; simpa using h4⟩
  rw [put_some]
  simp only [S.back, lk_cons]
  exact h1.comeBack hst hdl hru

end Go.VL
