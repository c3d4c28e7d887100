/- Part VL10 of the proof: made for this claim. -/
import Derived.Test.YtnajgcmdkmlimaaVL9
/-! VL part 10: the abstract state; operations that make memory. -/
set_option linter.unusedVariables false
set_option linter.unusedSimpArgs false
open Go.RowKit
namespace Go.VL

structure S where
  sl : List (Nat × V)
  mem : Nat → Option (List V)
  mn : Nat

def lk : List (Nat × V) → Nat → V
  | [], _ => .unk
  | (j, x) :: r, i => if j = i then x else lk r i
theorem lk_cons (d : Nat) (x : V) (l : List (Nat × V)) : lk ((d, x) :: l) = upd (lk l) d x := by
  funext i
  simp only [lk, upd]
  by_cases h : d = i
  · rw [if_pos h, if_pos h.symm]
  · rw [if_neg h, if_neg (Ne.symm h)]

def At (E : Entry) (nt : Nat) (σ : S) (a : Act) (w : World) : Prop := ∃ g ob, St E g ob (lk σ.sl) σ.mem a.tmps w ∧ g.mn = σ.mn ∧ a.defers = [] ∧ a.tmps.size = nt

variable {P : Program} {H : Env} {L : LEnv} {E : Entry} {nt : Nat}

def StepTo (P : Program) (E : Entry) (nt : Nat) (o : Oper) (σ σ' : S) : Prop := ∀ a w, At E nt σ a w →
  (∃ v w', (execOp a.eval o).run P w = .ok (.value v) w' ∧ At E nt σ' (a.put o.dst v) w') ∨ (∃ w', (execOp a.eval o).run P w = .ok .skip w' ∧ At E nt σ' (a.put o.dst undef) w')

theorem put_some (a : Act) (d : Nat) (v : Value) : (a.put (some d) v) = { a with tmps := a.tmps.setIfInBounds d v } := rfl

/-- A slot set. -/
def S.set (σ : S) (d : Nat) (x : V) : S := { σ with sl := (d, x) :: σ.sl }

theorem At.slots {σ : S} {a : Act} {w : World} (h : At E nt σ a w) : ∃ g, (∀ i, lk σ.sl i ≠ .unk → VR g w (lk σ.sl i) (a.tmps.getD i undef)) ∧ BoxesAt g w σ.mem ∧ Onto E.g0 g E.w0 w := by
  obtain ⟨g, ob, h1, _⟩ := h
  exact ⟨g, h1.slot, h1.box, h1.onto⟩

/-- An operation that only computes. -/
theorem step_ev1 (hH : EnvOk P H) (hL : LEnvOk P L) {gl : Nat → Option (List V)} (hG : GlOk E.g0 E.w0 gl) {o : Oper} {σ : S} {d : Nat} {c : Prop} {x : V} (ho : o.dst = some d) (hd : d < nt)
    (h : ev1 H L σ.mem (evO (lk σ.sl) gl) o.op = some (c, x)) (hc : c) (hno : x.noOwn) : StepTo P E nt o σ (σ.set d x) := by
  rintro a w ⟨g, ob, h1, h2, h3, h4⟩
  have hg := hG.onto h1.onto
  obtain ⟨v, r1, r2⟩ := ev1_sound (g := g) (w := w) hH hL (mem := σ.mem) h1.box (ρ := evO (lk σ.sl) gl) (σ := a.eval) (fun y hy => by
    have := evO_rel (d := a.defers) h1.slot hg y hy
    exact this) o h hc
  refine .inl ⟨v, w, r1, ?_⟩
  rw [ho, put_some]
  refine ⟨g, ob, ?_, h2, h3, by simpa using h4⟩
  rw [S.set, lk_cons]
  exact h1.put (by omega) (fun _ => r2) hno

/-- What is owned goes from slot to slot. -/
theorem step_take {o : Oper} {σ : S} {d i sz n : Nat} {cs : List V} (hop : o.op = .assign (.tmp i) ∨ o.op = .move (.tmp i)) (ho : o.dst = some d) (hd : d < nt) (hi : lk σ.sl i = .sl true sz n cs) :
    StepTo P E nt o σ { σ with sl := (d, .sl true sz n cs) :: (i, .sl false sz n cs) :: σ.sl } := by
  rintro a w ⟨g, ob, h1, h2, h3, h4⟩
  obtain ⟨ob', h5⟩ := h1.takeSlot hi (d := d) (by omega)
  refine .inl ⟨a.tmps.getD i undef, w, ?_, ?_⟩
  · obtain ⟨dst, op, ty, pos, after, guard⟩ := o
    rcases hop with rfl | rfl <;> rfl
  · rw [ho, put_some]
    refine ⟨g, ob', ?_, h2, h3, by simpa using h4⟩
    simp only [lk_cons]
    exact h5
theorem step_takeTup {o : Oper} {σ : S} {d i j sz n : Nat} {vs cs : List V} (hop : o.op = .extract (.tmp i) j) (ho : o.dst = some d) (hd : d < nt) (hi : lk σ.sl i = .tup vs) (hj : vs[j]? = some (.sl true sz n cs)) :
    StepTo P E nt o σ { σ with sl := (d, .sl true sz n cs) :: (i, .tup (vs.set j (.sl false sz n cs))) :: σ.sl } := by
  rintro a w ⟨g, ob, h1, h2, h3, h4⟩
  obtain ⟨ob', h5⟩ := h1.takeTup hi hj (d := d) (by omega)
  have hv := h1.slot i (by rw [hi]; simp)
  rw [hi] at hv
  refine .inl ⟨vcomp (a.tmps.getD i undef) j, w, ?_, ?_⟩
  · obtain ⟨dst, op, ty, pos, after, guard⟩ := o
    simp only at hop
    subst hop
    have hlt := (List.getElem?_eq_some_iff.1 hj).1
    generalize hu : a.tmps.getD i undef = u at hv
    cases hv with
    | tup _ us hl _ =>
      have hju : j < us.size := by omega
      have e : a.eval (.tmp i) = .tuple us := hu
      simp [execOp, e, Instr.extract, hju, vcomp, Array.getD_eq_getD_getElem?]
  · rw [ho, put_some]
    refine ⟨g, ob', ?_, h2, h3, by simpa using h4⟩
    simp only [lk_cons]
    exact h5
theorem step_takeCell (hH : EnvOk P H) {o : Oper} {σ : S} {d b off sz n : Nat} {t : TypeId} {j : TyI} {x : Operand} {gl : Nat → Option (List V)} (hG : GlOk E.g0 E.w0 gl) {l cs : List V} (hop : o.op = .load t x) (hj : H.get t = some j) (hja : j.agg = false)
    (ho : o.dst = some d) (hd : d < nt) (hx : evO (lk σ.sl) gl x = .bp b off) (hm : σ.mem b = some l) (hl : l[off]? = some (.sl true sz n cs)) :
    StepTo P E nt o σ { σ with sl := (d, .sl true sz n cs) :: σ.sl, mem := upd σ.mem b (some (l.set off (.sl false sz n cs))) } := by
  rintro a w ⟨g, ob, h1, h2, h3, h4⟩
  obtain ⟨u, ob', hu, h5⟩ := h1.takeCell hm hl (d := d) (by omega)
  have hv := evO_rel (d := a.defers) h1.slot (hG.onto h1.onto) x (by rw [hx]; simp)
  rw [hx] at hv
  refine .inl ⟨u, w, ?_, ?_⟩
  · obtain ⟨dst, op, ty, pos, after, guard⟩ := o
    simp only at hop
    subst hop
    have e : a.eval x = .pointer (some ⟨g.φ b, off, none⟩) := by
      show Act.eval { tmps := a.tmps, defers := a.defers } x = _
      generalize Act.eval { tmps := a.tmps, defers := a.defers } x = y at hv
      cases hv; rfl
    simp [execOp, e, Instr.loadAt, Instr.sureAddr, loadVar, (hH.tells hj).agg, hja, hu]
  · rw [ho, put_some]
    refine ⟨g, ob', ?_, h2, h3, by simpa using h4⟩
    simp only [lk_cons]
    exact h5

/-! ### Memory that is made -/
theorem thawed0 (c : Array Value) (fr : Nat × Nat) (h : c.size ≤ fr.1 ∨ fr.2 = 0) : Thawed c fr := by
  intro o ho
  simp only [Bool.and_eq_false_iff, decide_eq_false_iff_not]
  rcases h with h | h
  · left; omega
  · right; omega

theorem heap_alloc_new (w : World) (o : Obj) : (w.alloc o).heap[w.heap.size]? = some o := by
  show (w.heap.push o)[w.heap.size]? = some o
  simp

/-- A new box. -/
theorem St.newBox {g : G} {ob : Pos → Option Nat} {s : Nat → V} {mem : Nat → Option (List V)} {tm : Array Value} {w : World} (h : St E g ob s mem tm w) {d : Nat} (hd : d < tm.size) (cs : List V) (c : Array Value) (e : TypeId) (hc : VRL g w cs c)
    (hno : ∀ (o sz n : Nat) (xs : List V), cs[o]? ≠ some (V.sl true sz n xs)) :
    ∃ g', g'.mn = g.mn + 1 ∧ St E g' ob (upd s d (.bp g.mn 0)) (upd mem g.mn (some cs)) (tm.setIfInBounds d (.pointer (some ⟨w.heap.size, 0, none⟩))) (w.alloc (.cells c e)) := by
  have h1 := h.alloc (.cells c e) 0
  have ho : Onto g (g.protAt w.heap.size 0) w (w.alloc (.cells c e)) := ⟨fun blk of u _ hu => cell?_alloc hu, fun blk => by
    simp only [G.protAt]
    by_cases e : blk = w.heap.size
    · subst e; rw [upd_same, h.prot0 _ (Nat.le_refl _)]; omega
    · rw [upd_ne _ _ e]; exact Nat.le_refl _, fun _ _ => rfl, Nat.le_refl _⟩
  have hmn : mem g.mn = none := by
    cases hm : mem g.mn with
    | none => rfl
    | some cs => exact absurd (h.box _ _ hm).1 (Nat.lt_irrefl _)
  have h2 := h1.addBox w.heap.size cs ⟨c, e, (0, 0), heap_alloc_new _ _, hc.1, thawed0 _ _ (.inr rfl), fun i hi => (hc.2 i hi).onto ho⟩
    (fun q hq => by have := h.obLt q _ hq; omega)
    (fun b hb => by
      cases hm : mem b with
      | none => exact absurd hm hb
      | some cs =>
        obtain ⟨_, c', e', fr', q1, _⟩ := h.box b cs hm
        have := (Array.getElem?_eq_some_iff.1 q1).1
        show g.φ b ≠ _
        omega)
    (.inl h.size) (by simp [G.protAt, upd_same]) hno hmn
  refine ⟨_, rfl, h2.put hd (fun _ => ?_) (fun j sz n xs k => by cases j <;> simp [comp] at k)⟩
  have := VR.bp (g := (g.protAt w.heap.size 0).box w.heap.size) (w := w.alloc (.cells c e)) g.mn 0 (by simp [G.box, G.protAt])
  have e1 : ((g.protAt w.heap.size 0).box w.heap.size).φ g.mn = w.heap.size := by simp [G.box, G.protAt, upd_same]
  rwa [e1] at this

/-- A new row that a slot owns. -/
theorem St.newRow {g : G} {ob : Pos → Option Nat} {s : Nat → V} {mem : Nat → Option (List V)} {tm : Array Value} {w : World} (h : St E g ob s mem tm w) {d : Nat} (hd : d < tm.size) (sz n cap : Nat) (cs : List V) (c : Array Value) (e : TypeId) (fr : Nat × Nat)
    (hn : cs.length = n * sz) (hc : c.size = cap * sz) (hle : n ≤ cap) (hcm : cap ≤ maxLen) (hfr : Thawed c fr) (hv : ∀ i, i < cs.length → VR g w (cs.getD i .unk) (c.getD i undef)) :
    ∃ g' ob', g'.mn = g.mn ∧ St E g' ob' (upd s d (.sl true sz n cs)) mem (tm.setIfInBounds d (.slice (some ⟨w.heap.size, 0, none⟩) n cap)) (w.alloc (.cells c e fr)) := by
  have h1 := h.alloc (.cells c e fr) (n * sz)
  have ho : Onto g (g.protAt w.heap.size (n * sz)) w (w.alloc (.cells c e fr)) := ⟨fun blk of u _ hu => cell?_alloc hu, fun blk => by
    simp only [G.protAt]
    by_cases e : blk = w.heap.size
    · subst e; rw [upd_same, h.prot0 _ (Nat.le_refl _)]; omega
    · rw [upd_ne _ _ e]; exact Nat.le_refl _, fun _ _ => rfl, Nat.le_refl _⟩
  have hh := heap_alloc_new w (.cells c e fr)
  have hns : n * sz ≤ cap * sz := Nat.mul_le_mul_right _ hle
  obtain ⟨ob', _, h2⟩ := h1.give (d := d) (sz := sz) (n := n) (cs := cs) (v := .slice (some ⟨w.heap.size, 0, none⟩) n cap) (obv := some w.heap.size) hd
    (by
      refine .sl true sz n cs w.heap.size 0 cap c.toList hn hle hcm (by simp [G.protAt, upd_same]; omega) (fun i hi => ?_) (fun i hi => ?_)
      · simp only [World.cell?, hh]
        simp [List.getD_eq_getElem?_getD, show i < c.size by omega]
      · have := (hv i hi).onto ho
        simpa [List.getD_eq_getElem?_getD, Array.getD_eq_getD_getElem?] using this)
    ⟨rfl, .inr ⟨_, c, e, fr, rfl, rfl, hh, hc, hfr, by simp [G.protAt, upd_same], hle, hcm⟩⟩
    (fun blk hb => by
      cases hb
      refine ⟨fun q hq => by have := h.obLt q _ hq; omega, fun b hb => ?_, by simp, .inl h.size⟩
      cases hm : mem b with
      | none => exact absurd hm hb
      | some cs =>
        obtain ⟨_, c', e', fr', q1, _⟩ := h.box b cs hm
        have := (Array.getElem?_eq_some_iff.1 q1).1
        show g.φ b ≠ _
        omega)
  exact ⟨g.protAt w.heap.size (n * sz), ob', rfl, h2⟩

end Go.VL
