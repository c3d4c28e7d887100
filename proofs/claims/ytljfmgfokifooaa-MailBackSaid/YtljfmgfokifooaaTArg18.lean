/- Part TArg18 of the proof: made for this claim. -/
import Derived.Test.YtljfmgfokifooaaTEnv
import Derived.Test.YtljfmgfokifooaaMailRead
set_option linter.unusedVariables false
set_option linter.unusedSimpArgs false
set_option maxRecDepth 100000
open Go.RowKit
namespace Go.VL
open Go.Proofs
theorem dr_cells {cs : List V} {d0 : Nat} (h : TC Try.prog (d0 + 3) 35 cs) : ∃ d : Dr, cs = d.c ∧ d.ok := by
  replace h := tc_struct Try.underlying35 h
  obtain ⟨c1, r1, rfl, k1, h⟩ := h
  obtain ⟨c2, r2, rfl, k2, h⟩ := h
  obtain ⟨c3, r3, rfl, k3, h⟩ := h
  obtain ⟨c4, r4, rfl, k4, h⟩ := h
  have hr4 : r4 = [] := h
  subst hr4
  obtain ⟨n, rfl, hn⟩ := tc_int Try.underlying3 k1
  obtain ⟨s, rfl, hs⟩ := tc_str Try.underlying9 k2
  obtain ⟨t, rfl, ht⟩ := tc_str Try.underlying9 k3
  obtain ⟨x, rfl⟩ := tc_id32 Try.underlying23 Try.underlying5 k4
  exact ⟨⟨n, s, t, x⟩, by simp [Dr.c], hn, hs, ht⟩
theorem ent_cells {cs : List V} {d0 : Nat} (h : TC Try.prog (d0 + 4) 37 cs) : ∃ e : Ent, cs = e.c ∧ e.ok := by
  replace h := tc_struct Try.underlying37 h
  obtain ⟨c1, r1, rfl, k1, h⟩ := h
  obtain ⟨c2, r2, rfl, k2, h⟩ := h
  obtain ⟨c3, r3, rfl, k3, h⟩ := h
  obtain ⟨c4, r4, rfl, k4, h⟩ := h
  obtain ⟨c5, r5, rfl, k5, h⟩ := h
  obtain ⟨c6, r6, rfl, k6, h⟩ := h
  obtain ⟨c7, r7, rfl, k7, h⟩ := h
  obtain ⟨c8, r8, rfl, k8, h⟩ := h
  have hr8 : r8 = [] := h
  subst hr8
  obtain ⟨n1, rfl, h1⟩ := tc_int Try.underlying3 k1
  obtain ⟨d, rfl, h2⟩ := dr_cells k2
  obtain ⟨n3, rfl, h3⟩ := tc_int Try.underlying3 k3
  obtain ⟨n4, rfl, h4⟩ := tc_int Try.underlying3 k4
  obtain ⟨x5, rfl⟩ := tc_id32 Try.underlying23 Try.underlying5 k5
  obtain ⟨n6, rfl, h6⟩ := tc_int Try.underlying3 k6
  obtain ⟨s7, rfl, h7⟩ := tc_str Try.underlying9 k7
  obtain ⟨s8, rfl, h8⟩ := tc_str Try.underlying9 k8
  exact ⟨⟨n1, d, n3, n4, x5, n6, s7, s8⟩, by simp [Ent.c], h1, h2, h3, h4, h6, h7, h8⟩
theorem au_cells {cs : List V} {d0 : Nat} (h : TC Try.prog (d0 + 3) 25 cs) : ∃ a : Au, cs = a.c ∧ a.ok := by
  replace h := tc_struct Try.underlying25 h
  obtain ⟨c1, r1, rfl, k1, h⟩ := h
  obtain ⟨c2, r2, rfl, k2, h⟩ := h
  obtain ⟨c3, r3, rfl, k3, h⟩ := h
  obtain ⟨c4, r4, rfl, k4, h⟩ := h
  have hr4 : r4 = [] := h
  subst hr4
  obtain ⟨n, rfl, hn⟩ := tc_int Try.underlying3 k1
  obtain ⟨q, rfl, hq⟩ := tc_int Try.underlying3 k2
  obtain ⟨x, rfl⟩ := tc_id32 Try.underlying23 Try.underlying5 k3
  obtain ⟨t, rfl, ht⟩ := tc_str Try.underlying9 k4
  exact ⟨⟨n, q, x, t⟩, by simp [Au.c], hn, hq, ht⟩
theorem sv_flatten (l : List (List UInt8)) : (l.map fun s => [V.flat (.string (bs s))]).flatten = sv l := by
  induction l with
  | nil => rfl
  | cons s l ih => simp only [List.map_cons, List.flatten_cons, ih]; rfl
theorem mail_cells {cs : List V} {d0 : Nat} (h : TC Try.prog (d0 + 6) 30 cs) : ∃ m : Mail, cs = m.ml.c ∧ m.ok := by
  replace h := tc_struct Try.underlying30 h
  obtain ⟨c1, r1, rfl, k1, h⟩ := h
  obtain ⟨c2, r2, rfl, k2, h⟩ := h
  obtain ⟨c3, r3, rfl, k3, h⟩ := h
  obtain ⟨c4, r4, rfl, k4, h⟩ := h
  obtain ⟨c5, r5, rfl, k5, h⟩ := h
  obtain ⟨c6, r6, rfl, k6, h⟩ := h
  obtain ⟨c7, r7, rfl, k7, h⟩ := h
  obtain ⟨c8, r8, rfl, k8, h⟩ := h
  obtain ⟨c9, r9, rfl, k9, h⟩ := h
  obtain ⟨c10, r10, rfl, k10, h⟩ := h
  obtain ⟨c11, r11, rfl, k11, h⟩ := h
  obtain ⟨c12, r12, rfl, k12, h⟩ := h
  have hr : r12 = [] := h
  subst hr
  obtain ⟨n1, rfl, h1⟩ := tc_int Try.underlying3 k1
  obtain ⟨n2, rfl, h2⟩ := tc_int Try.underlying3 k2
  obtain ⟨n3, rfl, h3⟩ := tc_int Try.underlying3 k3
  obtain ⟨n4, rfl, h4⟩ := tc_int Try.underlying3 k4
  obtain ⟨x5, rfl⟩ := tc_id32 Try.underlying23 Try.underlying5 k5
  obtain ⟨n6, rfl, h6⟩ := tc_int Try.underlying3 k6
  obtain ⟨s7, rfl, h7⟩ := tc_str Try.underlying9 k7
  obtain ⟨n8, rfl, h8⟩ := tc_int Try.underlying3 k8
  obtain ⟨a9, rfl, h9⟩ := au_cells (d0 := d0 + 2) k9
  obtain ⟨l10, rfl, b10, h10⟩ := tc_slice Au.c Au.ok Try.underlying26 (n := 35) (by kernel_rfl) (fun c hc => au_cells (d0 := d0 + 1) hc) k10
  obtain ⟨l11, rfl, b11, h11⟩ := tc_slice Ent.c Ent.ok Try.underlying27 (n := 73) (by kernel_rfl) (fun c hc => ent_cells (d0 := d0) hc) k11
  obtain ⟨l12, rfl, b12, h12⟩ := tc_slice (fun s : List UInt8 => [V.flat (.string (bs s))]) (fun s => s.length ≤ 140737488351232) Try.underlying28 (n := 1) (by kernel_rfl) (fun c hc => by obtain ⟨t, rfl, ht⟩ := tc_str Try.underlying9 hc; exact ⟨t, rfl, ht⟩) k12
  refine ⟨⟨n1, n2, n3, n4, x5, n6, s7, n8, a9, l10, l11, l12⟩, ?_, h1, h2, h3, h4, h6, h7, h8, h9, ⟨h10, b10⟩, ⟨h11, b11⟩, h12, b12⟩
  rw [sv_flatten]
  simp [Mail.ml, Ml.c, Au.lC, Ent.lC]
theorem mail_arg {x : V} (h : TV Try.prog 6 30 x) : ∃ m : Mail, x = .agg m.ml.c ∧ m.ok := by
  obtain ⟨cs, rfl, k0⟩ := tv_agg Try.underlying30 h
  obtain ⟨m, rfl, hm⟩ := mail_cells (d0 := 0) k0
  exact ⟨m, rfl, hm⟩
end Go.VL
