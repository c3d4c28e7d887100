/- Part TArg9w of the proof: made for this claim. -/
import Derived.Test.YtnajgcmdkmlimaaTEnv
import Derived.Test.YtnajgcmdkmlimaaOpList
set_option linter.unusedVariables false
set_option linter.unusedSimpArgs false
set_option maxRecDepth 100000
open Go.RowKit
namespace Go.VL
open Go.Proofs
/-! Arguments that are operations. -/
theorem dr_cells {cs : List V} {d0 : Nat} (h : TC Try.prog (d0 + 3) 25 cs) : ∃ d : Dr, cs = d.c ∧ d.ok := by
  replace h := tc_struct Try.underlying25 h
  obtain ⟨c1, r1, rfl, k1, h⟩ := h
  obtain ⟨c2, r2, rfl, k2, h⟩ := h
  obtain ⟨c3, r3, rfl, k3, h⟩ := h
  obtain ⟨c4, r4, rfl, k4, h⟩ := h
  have hr4 : r4 = [] := h
  subst hr4
  obtain ⟨n, rfl, hn⟩ := tc_int Try.underlying3 k1
  obtain ⟨s, rfl, hs⟩ := tc_str Try.underlying9 k2
  obtain ⟨t, rfl, ht⟩ := tc_str Try.underlying9 k3
  obtain ⟨x, rfl⟩ := tc_id32 Try.underlying23 Try.underlying5 k4
  exact ⟨⟨n, s, t, x⟩, by simp [Dr.c], hn, hs, ht⟩
theorem op_cells {cs : List V} {d0 : Nat} (h : TC Try.prog (d0 + 4) 28 cs) : ∃ o : Opn, cs = OpR.c ⟨o.d, o.a, o.dep, .sl false 32 o.ps.length (idsC o.ps)⟩ ∧ o.ok := by
  replace h := tc_struct Try.underlying28 h
  obtain ⟨c1, r1, rfl, k1, h⟩ := h
  obtain ⟨c2, r2, rfl, k2, h⟩ := h
  obtain ⟨c3, r3, rfl, k3, h⟩ := h
  obtain ⟨c4, r4, rfl, k4, h⟩ := h
  have hr4 : r4 = [] := h
  subst hr4
  obtain ⟨d, rfl, hd⟩ := dr_cells k1
  obtain ⟨n, rfl, hn⟩ := tc_int Try.underlying3 k2
  obtain ⟨q, rfl, hq⟩ := tc_int Try.underlying3 k3
  obtain ⟨ps, rfl, hl, _⟩ := tc_slice (fun x : Id32 => bv x.1) (fun _ => True) Try.underlying26 (n := 32) (by kernel_rfl) (fun c hc => by obtain ⟨x, hx⟩ := tc_id32 (d := d0 + 0) Try.underlying23 Try.underlying5 hc; exact ⟨x, hx, trivial⟩) k4
  exact ⟨⟨d, n, q, ps⟩, by simp [OpR.c, idsC], hd, hn, hq, hl⟩
theorem op_arg {x : V} (h : TV Try.prog 4 28 x) : ∃ o : Opn, x = .agg (OpR.c ⟨o.d, o.a, o.dep, .sl false 32 o.ps.length (idsC o.ps)⟩) ∧ o.ok := by
  obtain ⟨cs, rfl, k0⟩ := tv_agg Try.underlying28 h
  obtain ⟨o, rfl, ho⟩ := op_cells (d0 := 0) k0
  exact ⟨o, rfl, ho⟩
theorem ops_arg {x : V} (h : TV Try.prog 5 63 x) : ∃ l : List Opn, x = .sl false 38 l.length (Opn.lC l) ∧ ((∀ o ∈ l, o.ok) ∧ l.length ≤ 140737488351232) := by
  obtain ⟨l, h1, h2, h3⟩ := tc_slice Opn.oc Opn.ok Try.underlying63 (n := 38) (by kernel_rfl) (fun c hc => op_cells (d0 := 0) hc) (tv_sl Try.underlying63 h)
  simp only [List.cons.injEq, and_true] at h1
  exact ⟨l, h1, h3, h2⟩
end Go.VL
