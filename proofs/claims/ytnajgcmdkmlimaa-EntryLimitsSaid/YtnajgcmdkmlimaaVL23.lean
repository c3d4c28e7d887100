/- Part VL23 of the proof: made for this claim. -/
import Derived.Test.YtnajgcmdkmlimaaVL22
import Derived.Still
/-! VL part 23: regions that draw their order, whose operations only compute or call what leaves the memory alone. -/
set_option linter.unusedVariables false
set_option linter.unusedSimpArgs false
open Go.RowKit
namespace Go.VL
variable {P : Program} {E : Entry} {w : World} {C : Cfg} {ops : List Oper} {mem : Nat → Option (List V)} {mn : Nat}

theorem upd_comm {s : Nat → V} {d e : Nat} {x y : V} (h : d ≠ e) : upd (upd s d x) e y = upd (upd s e y) d x := by
  funext i
  unfold upd
  by_cases h1 : i = d <;> by_cases h2 : i = e <;> simp_all

def looks (ops : List Oper) (o : Oper) (t : Nat) : Prop := t ∈ o.looksAt ops.toArray

/-- What an operation yields, whatever else stands around. -/
def YA (P : Program) (C : Cfg) (mem : Nat → Option (List V)) (mn : Nat) (s : Nat → V) (o : Oper) (x : V) : Prop :=
  (∃ c, evC C.H C.L mem (evO s C.gl) o.op = some (c, x) ∧ c) ∨
  (∃ f xs ats, o.op = .call { callee := .value (.func f), args := xs, argTypes := ats } ∧ (∀ y ∈ xs.toList, (evO s C.gl y).fz.known = true) ∧
    Sp P C.gl f (xs.toList.map fun y => (evO s C.gl y).fz) mem mn (fun r m k => r = x ∧ m = mem ∧ k = mn))
def YW (P : Program) (C : Cfg) (ops : List Oper) (mem : Nat → Option (List V)) (mn : Nat) (s : Nat → V) (o : Oper) (x : V) : Prop :=
  (wantedV ops s o = some true ∧ YA P C mem mn s o x) ∨ (wantedV ops s o = some false ∧ x = .tup [])

theorem ev1_congr {H : Env} {L : LEnv} {ρ ρ' : Operand → V} (op : Op) (h : ∀ x ∈ op.operands, ρ x = ρ' x) : ev1 H L mem ρ op = ev1 H L mem ρ' op := by
  have pairs : ∀ ps : Array (Nat × Operand), (∀ x ∈ ps.map (·.2), ρ x = ρ' x) → (ps.toList.map fun p => (p.1, ρ p.2)) = (ps.toList.map fun p => (p.1, ρ' p.2)) := fun ps hp =>
    List.map_congr_left fun p hm => by rw [hp p.2 (Array.mem_map.2 ⟨p, by simpa using hm, rfl⟩)]
  cases op <;> simp only [Op.operands] at h <;> simp only [ev1]
  case build t ps => rw [pairs ps fun x hx => h x (by simpa using hx)]
  case call c =>
    have hargs : c.args.toList.map ρ = c.args.toList.map ρ' := List.map_congr_left fun x hx => h x (by simp only [Call.operands, Array.mem_append]; simp at hx; first | exact .inl (by simpa using hx) | exact .inr hx | simp [hx])
    rw [hargs]
  case slice t x lo hi mx => cases lo <;> cases hi <;> cases mx <;> simp_all
  all_goals (first | rfl | (simp_all; done))

theorem evO_congr {s s' : Nat → V} {gl : Nat → Option (List V)} {o : Oper} (h : ∀ t, looks ops o t → s' t = s t) : ∀ x ∈ o.op.operands, evO s' gl x = evO s gl x := fun x hx => by
  cases x with
  | tmp t => exact h t (List.mem_append_left _ (List.mem_filterMap.2 ⟨.tmp t, by simpa using hx, rfl⟩))
  | _ => rfl

theorem wantedV_congr {s s' : Nat → V} {o : Oper} (h : ∀ t, looks ops o t → s' t = s t) : wantedV ops s' o = wantedV ops s o := by
  unfold wantedV
  cases hg : o.guard with
  | none => rfl
  | some jw =>
    obtain ⟨j, want⟩ := jw
    simp only
    cases hd : (ops[j]?).bind (·.dst) with
    | none => rfl
    | some d =>
      simp only
      rw [h d (by unfold looks Oper.looksAt; refine List.mem_append_right _ ?_; rw [hg]; simp [hd])]

theorem YW.congr {s s' : Nat → V} {o : Oper} {x : V} (h : ∀ t, looks ops o t → s' t = s t) (hy : YW P C ops mem mn s o x) : YW P C ops mem mn s' o x := by
  have he := evO_congr (gl := C.gl) h
  unfold YW at *
  rw [wantedV_congr h]
  rcases hy with ⟨h1, h2⟩ | h2
  · refine .inl ⟨h1, ?_⟩
    rcases h2 with ⟨c, h3, h4⟩ | ⟨f, xs, ats, h3, h4, h5⟩
    · refine .inl ⟨c, ?_, h4⟩
      unfold evC at *
      rw [ev1_congr o.op he]; exact h3
    · refine .inr ⟨f, xs, ats, h3, ?_, ?_⟩
      · intro y hy
        rw [he y (by rw [h3]; simp only [Op.operands, Call.operands]; simp at hy; simp [hy])]; exact h4 y hy
      · have : (xs.toList.map fun y => (evO s' C.gl y).fz) = xs.toList.map fun y => (evO s C.gl y).fz := List.map_congr_left fun y hy => by
          rw [he y (by rw [h3]; simp only [Op.operands, Call.operands]; simp at hy; simp [hy])]
        rw [this]; exact h5
  · exact .inr h2

def AtF (E : Entry) (nt : Nat) (s : Nat → V) (mem : Nat → Option (List V)) (mn : Nat) (a : Act) (w : World) : Prop := ∃ g ob, St E g ob s mem a.tmps w ∧ g.mn = mn ∧ a.defers = [] ∧ a.tmps.size = nt

def runA.isCall : Op → Option (FuncId × List Operand)
    | .call c => match c.callee with
      | .value y => match y with
        | .func f => some (f, c.args.toList)
        | _ => none
      | _ => none
    | _ => none

theorem isCall_spec {op : Op} {f : FuncId} {xs : List Operand} (h : runA.isCall op = some (f, xs)) : ∃ ys ats, op = .call { callee := .value (.func f), args := ys, argTypes := ats } ∧ ys.toList = xs := by
  unfold runA.isCall at h
  split at h <;> try cases h
  rename_i c
  split at h <;> try cases h
  rename_i y hy
  split at h <;> try cases h
  obtain ⟨callee, args, ats⟩ := c
  simp only at hy
  subst hy
  exact ⟨args, ats, rfl, rfl⟩


end Go.VL
