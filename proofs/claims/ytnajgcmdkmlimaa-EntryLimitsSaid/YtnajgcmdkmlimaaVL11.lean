/- Part VL11 of the proof: made for this claim. -/
import Derived.Test.YtnajgcmdkmlimaaVL10
/-! VL part 11: steps that make memory. -/
set_option linter.unusedVariables false
set_option linter.unusedSimpArgs false
open Go.RowKit
namespace Go.VL
variable {P : Program} {H : Env} {L : LEnv} {E : Entry} {nt : Nat}

def noOwnB : V → Bool
  | .sl own _ _ _ => !own
  | _ => true
theorem noOwn_cells {cs : List V} (h : ∀ x ∈ cs, noOwnB x = true) (o sz n : Nat) (xs : List V) : cs[o]? ≠ some (V.sl true sz n xs) := by
  intro e
  have := h _ (List.mem_of_getElem? e)
  simp [noOwnB] at this

theorem zeros_noOwn (l : List Value) : ∀ x ∈ l.map ofC1, noOwnB x = true := by
  intro x hx
  rw [List.mem_map] at hx
  obtain ⟨v, _, rfl⟩ := hx
  unfold ofC1
  split
  · rfl
  · split <;> rfl
theorem Tells.zero_noOwn {t : TypeId} {i : TyI} (h : Tells P t i) : ∀ x ∈ i.zero, noOwnB x = true := by
  obtain ⟨ti, _, _, _, _, h5⟩ := h.isz
  rw [← h5]
  split
  · exact zeros_noOwn _
  · intro x hx; cases hx

theorem step_alloc (hH : EnvOk P H) {o : Oper} {σ : S} {d : Nat} {t : TypeId} {i : TyI} (hop : o.op = .alloc t) (hi : H.get t = some i) (hz : i.zok = true) (ho : o.dst = some d) (hd : d < nt) :
    StepTo P E nt o σ { sl := (d, .bp σ.mn 0) :: σ.sl, mem := upd σ.mem σ.mn (some i.zero), mn := σ.mn + 1 } := by
  rintro a w ⟨g, ob, h1, h2, h3, h4⟩
  have hT := hH.tells hi
  obtain ⟨z, hz1, hz2, hz3, _⟩ := hT.zeroVal (w := w) (g := g) hz
  obtain ⟨g', hg, h5⟩ := h1.newBox (d := d) (by omega) i.zero z.cells t hz2 (noOwn_cells hT.zero_noOwn)
  refine .inl ⟨.pointer (some ⟨w.heap.size, 0, none⟩), w.alloc (.cells z.cells t), ?_, ?_⟩
  · obtain ⟨dst, op, ty, pos, after, guard⟩ := o
    simp only at hop
    subst hop
    simp [execOp, Instr.alloc, hz1, newVar, newRow]
  · rw [ho, put_some]
    refine ⟨g', ob, ?_, by rw [hg, h2], h3, by simpa using h4⟩
    simp only [lk_cons]
    rw [← h2]
    exact h5

theorem step_box (hH : EnvOk P H) {gl : Nat → Option (List V)} (hG : GlOk E.g0 E.w0 gl) {o : Oper} {σ : S} {d : Nat} {t : TypeId} {y : Operand} (hop : o.op = .box t y) (ho : o.dst = some d) (hd : d < nt)
    (hk : evO (lk σ.sl) gl y ≠ .unk) (hno : ∀ x ∈ (evO (lk σ.sl) gl y).cells.map V.fz, noOwnB x = true) :
    StepTo P E nt o σ { sl := (d, .bp σ.mn 0) :: σ.sl, mem := upd σ.mem σ.mn (some ((evO (lk σ.sl) gl y).cells.map V.fz)), mn := σ.mn + 1 } := by
  rintro a w ⟨g, ob, h1, h2, h3, h4⟩
  have hv := evO_rel (d := a.defers) h1.slot (hG.onto h1.onto) y hk
  have hc := hv.cells
  have hc' : VRL g w ((evO (lk σ.sl) gl y).cells.map V.fz) (Act.eval { tmps := a.tmps, defers := a.defers } y).cells := by
    refine ⟨by rw [List.length_map]; exact hc.1, fun i hi => ?_⟩
    rw [List.length_map] at hi
    rw [show (List.map V.fz (evO (lk σ.sl) gl y).cells).getD i .unk = ((evO (lk σ.sl) gl y).cells.getD i .unk).fz by simp [List.getD_eq_getElem?_getD, hi]]
    exact (hc.2 i hi).fz
  obtain ⟨g', hg, h5⟩ := h1.newBox (d := d) (by omega) _ _ t hc' (noOwn_cells hno)
  refine .inl ⟨.pointer (some ⟨w.heap.size, 0, none⟩), w.alloc (.cells (a.eval y).cells t), ?_, ?_⟩
  · obtain ⟨dst, op, ty, pos, after, guard⟩ := o
    simp only at hop
    subst hop
    simp [execOp, Instr.box, newVar, newRow]
  · rw [ho, put_some]
    refine ⟨g', ob, ?_, by rw [hg, h2], h3, by simpa using h4⟩
    simp only [lk_cons]
    rw [← h2]
    exact h5

/-- n times the same cells. -/
def rep (n : Nat) (z : List V) : List V := (List.replicate n z).flatten
theorem length_rep (n : Nat) (z : List V) : (rep n z).length = n * z.length := by simp [rep, List.length_flatten]
theorem getD_rep : ∀ (n : Nat) (z : List V) (i : Nat), i < n * z.length → (rep n z).getD i .unk = z.getD (i % z.length) .unk
  | 0, z, i, h => by omega
  | n + 1, z, i, h => by
    simp only [rep, List.replicate_succ, List.flatten_cons]
    by_cases hi : i < z.length
    · rw [List.getD_eq_getElem?_getD, List.getElem?_append_left hi, Nat.mod_eq_of_lt hi, List.getD_eq_getElem?_getD]
    · rw [List.getD_eq_getElem?_getD, List.getElem?_append_right (by omega), ← List.getD_eq_getElem?_getD]
      have := getD_rep n z (i - z.length) (by rw [Nat.add_mul, Nat.one_mul] at h; omega)
      rw [rep] at this
      rw [this]
      congr 1
      exact (Nat.mod_eq_sub_mod (by omega)).symm
theorem rep_rel {g : G} {w : World} {z : List V} {c : Array Value} (h : VRL g w z c) (n : Nat) : VRL g w (rep n z) ((Array.range (n * c.size)).map (fun k => c[k % c.size]!)) := by
  refine ⟨by simp [length_rep, h.1], fun i hi => ?_⟩
  rw [length_rep] at hi
  have hz : 0 < z.length := by
    rcases Nat.eq_zero_or_pos z.length with k | k
    · rw [k] at hi; omega
    · exact k
  rw [getD_rep n z i hi]
  have hl : i % z.length < z.length := Nat.mod_lt _ hz
  have := h.2 _ hl
  have e : (((Array.range (n * c.size)).map (fun k => c[k % c.size]!)).getD i undef) = c.getD (i % z.length) undef := by
    have hi' : i < n * c.size := by rw [h.1]; exact hi
    have hl' : i % z.length < c.size := by rw [h.1]; exact hl
    rw [Array.getD_eq_getD_getElem?, Array.getElem?_map, Array.getElem?_range, if_pos hi']
    simp only [Option.map_some, Option.getD_some]
    rw [h.1, getElem!_pos c _ hl', Array.getD_eq_getD_getElem?, Array.getElem?_eq_getElem hl', Option.getD_some]
  rw [e]; exact this

/-- '[]T{..}' of n elements. -/
theorem step_buildSlice (hH : EnvOk P H) {gl : Nat → Option (List V)} (hG : GlOk E.g0 E.w0 gl) {o : Oper} {σ : S} {d n : Nat} {t e : TypeId} {ti i : TyI} {ps : Array (Nat × Operand)} (hop : o.op = .buildSlice t n ps) (ho : o.dst = some d) (hd : d < nt)
    (ht : H.get t = some ti) (hte : ti.k = .sl e) (hi : H.get e = some i) (hz : i.zok = true) (hsz : n * i.sz ≤ 2 ^ 24) (hpos : 0 < n * i.sz) {c : Prop} {r : List V}
    (hf : fillV (fun k => some (k * i.sz, i.sz)) (rep n i.zero) (ps.toList.map fun p => (p.1, (evO (lk σ.sl) gl p.2).fz)) = some (c, r)) (hc : c) (hk : ∀ p ∈ ps.toList, evO (lk σ.sl) gl p.2 ≠ .unk) (hr : r.length = n * i.sz) :
    StepTo P E nt o σ (σ.set d (.sl true i.sz n r)) := by
  rintro a w ⟨g, ob, h1, h2, h3, h4⟩
  have hT := hH.tells hi
  obtain ⟨z, hz1, hz2, hz3, _⟩ := hT.zeroVal (w := w) (g := g) hz
  have hu := (hH.tells ht).und_sl hte
  have hrep := rep_rel hz2 n
  obtain ⟨rs, r1, r2⟩ := fillV_rel (g := g) (w := w) _ _ (ps.toList.map fun p => (p.1, a.eval p.2)) _ _ c r hrep (by simp) (fun j k x hj => by
    simp only [List.getElem?_map, Option.map_eq_some_iff] at hj
    obtain ⟨⟨k', y⟩, hp, e⟩ := hj
    simp only [Prod.mk.injEq] at e
    obtain ⟨rfl, rfl⟩ := e
    refine ⟨a.eval y, by simp [hp], ?_⟩
    have := evO_rel (d := a.defers) h1.slot (hG.onto h1.onto) y (hk _ (List.mem_of_getElem? hp))
    exact this.fz) hf hc
  have hrs : rs.size = n * i.sz := by rw [r2.1, hr]
  obtain ⟨g', ob', hg, h5⟩ := h1.newRow (d := d) (by omega) i.sz n n r rs e (0, 0) hr hrs (Nat.le_refl _) (by
    have : n ≤ n * i.sz := Nat.le_mul_of_pos_right _ (Nat.pos_of_mul_pos_left hpos)
    unfold maxLen; omega) (thawed0 _ _ (.inr rfl)) r2.2
  refine .inl ⟨.slice (some ⟨w.heap.size, 0, none⟩) n n, w.alloc (.cells rs e), ?_, ?_⟩
  · obtain ⟨dst, op, ty, pos, after, guard⟩ := o
    simp only at hop
    subst hop
    have e1 : ¬ (n * i.sz > 2 ^ 24) := by omega
    have e2 : ¬ (n * i.sz = 0) := by omega
    have e3 : (ps.map fun (k, x) => (k, a.eval x)).toList = ps.toList.map fun p => (p.1, a.eval p.2) := by simp
    rw [hz3] at r1
    simp only [execOp, Instr.buildSlice, Sem.run_bind, run_underlying' hu, Result.andThen_ok, hT.size, e1, if_false, e2, hz1, Sem.run_pure, e3, r1, newRow, run_newObj, hz3]
    rfl
  · rw [ho, put_some]
    refine ⟨g', ob', ?_, by rw [hg]; exact h2, h3, by simpa using h4⟩
    simp only [S.set, lk_cons]
    exact h5

end Go.VL
