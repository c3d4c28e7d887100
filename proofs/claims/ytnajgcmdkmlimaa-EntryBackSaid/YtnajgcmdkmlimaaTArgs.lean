/- Part TArgs of the proof: made for this claim. -/
import Derived.Test.YtnajgcmdkmlimaaTEnv
import Derived.Test.YtnajgcmdkmlimaaEntSpec
set_option linter.unusedVariables false
set_option linter.unusedSimpArgs false
set_option maxRecDepth 100000
open Go.RowKit
namespace Go.VL
open Go.Proofs
/-! Arguments that are entries. -/
theorem dr_cells {cs : List V} {d0 : Nat} (h : TC Try.prog (d0 + 3) 25 cs) : ∃ d : Dr, cs = d.c ∧ d.ok := by
  replace h := tc_struct Try.underlying25 h
  obtain ⟨c1, r1, rfl, k1, h⟩ := h
  obtain ⟨c2, r2, rfl, k2, h⟩ := h
  obtain ⟨c3, r3, rfl, k3, h⟩ := h
  obtain ⟨c4, r4, rfl, k4, h⟩ := h
  have hr4 : r4 = [] := h
  subst hr4
  obtain ⟨n, rfl, hn⟩ := tc_int Try.underlying3 k1
  obtain ⟨s, rfl, hs⟩ := tc_str Try.underlying9 k2
  obtain ⟨t, rfl, ht⟩ := tc_str Try.underlying9 k3
  obtain ⟨x, rfl⟩ := tc_id32 Try.underlying23 Try.underlying5 k4
  exact ⟨⟨n, s, t, x⟩, by simp [Dr.c], hn, hs, ht⟩
theorem ent_cells {cs : List V} {d0 : Nat} (h : TC Try.prog (d0 + 4) 35 cs) : ∃ e : Ent, cs = e.c ∧ e.ok := by
  replace h := tc_struct Try.underlying35 h
  obtain ⟨c1, r1, rfl, k1, h⟩ := h
  obtain ⟨c2, r2, rfl, k2, h⟩ := h
  obtain ⟨c3, r3, rfl, k3, h⟩ := h
  obtain ⟨c4, r4, rfl, k4, h⟩ := h
  obtain ⟨c5, r5, rfl, k5, h⟩ := h
  obtain ⟨c6, r6, rfl, k6, h⟩ := h
  obtain ⟨c7, r7, rfl, k7, h⟩ := h
  obtain ⟨c8, r8, rfl, k8, h⟩ := h
  have hr8 : r8 = [] := h
  subst hr8
  obtain ⟨n1, rfl, h1⟩ := tc_int Try.underlying3 k1
  obtain ⟨d, rfl, h2⟩ := dr_cells k2
  obtain ⟨n3, rfl, h3⟩ := tc_int Try.underlying3 k3
  obtain ⟨n4, rfl, h4⟩ := tc_int Try.underlying3 k4
  obtain ⟨x5, rfl⟩ := tc_id32 Try.underlying23 Try.underlying5 k5
  obtain ⟨n6, rfl, h6⟩ := tc_int Try.underlying3 k6
  obtain ⟨s7, rfl, h7⟩ := tc_str Try.underlying9 k7
  obtain ⟨s8, rfl, h8⟩ := tc_str Try.underlying9 k8
  exact ⟨⟨n1, d, n3, n4, x5, n6, s7, s8⟩, by simp [Ent.c], h1, h2, h3, h4, h6, h7, h8⟩
theorem ent_arg {x : V} (h : TV Try.prog 4 35 x) : ∃ e : Ent, x = .agg e.c ∧ e.ok := by
  obtain ⟨cs, rfl, k0⟩ := tv_agg Try.underlying35 h
  obtain ⟨e, rfl, he⟩ := ent_cells (d0 := 0) k0
  exact ⟨e, rfl, he⟩
theorem ents_arg {x : V} (h : TV Try.prog 5 39 x) : ∃ l : List Ent, x = .sl false 73 l.length (Ent.lC l) ∧ ((∀ e ∈ l, e.ok) ∧ l.length ≤ 140737488351232) := by
  obtain ⟨l, h1, h2, h3⟩ := tc_slice Ent.c Ent.ok Try.underlying39 (n := 73) (by kernel_rfl) (fun c hc => ent_cells (d0 := 0) hc) (tv_sl Try.underlying39 h)
  simp only [List.cons.injEq, and_true] at h1
  exact ⟨l, h1, h3, h2⟩
end Go.VL
