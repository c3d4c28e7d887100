/- Part SF of the proof: made for this claim. -/
import Derived.Test.YtbceglggojnnaaaDoorSE
import Derived.Test.YtbceglggojnnaaaDoorVLc
import Derived.Test.YtbceglggojnnaaaDoorRows
set_option linter.unusedVariables false
set_option linter.unusedSimpArgs false
set_option maxRecDepth 100000
set_option maxHeartbeats 8000000
open Go.RowKit
namespace Go.VL
open Go.Proofs
theorem ChainChecks_sp (a : Au) (ha : a.ok) (l : List Nd) (hok : ∀ n ∈ l, n.ok) (hl : l.length ≤ 140737488351232) : Rt 10 [.agg a.c, .sl false 17 l.length (Nd.lC l)] (.flat (.bool true)) := by
  by_cases h1 : (l.length : Int) > 6
  · have f1 := eq_true h1
    intro M mn
    refine fnL (C := kc 25 [] []) (rs := [.tmp 4]) envOk Tryd.func10 (by kernel_rfl) rfl rfl rfl rfl rfl rfl (Low.flat _) ?_
    intro E hG hM
    repeat' (first | (with_reducible first | refine pa ?_ | refine pb ?_ | refine pc ?_ | refine nxt_n ?_ | refine nxt_e ?_ | refine nxt_r ?_ | refine blk_n ?_ | refine blk_r ?_ | refine blk_hit ?_ | refine blk_miss (by rfl) ?_ | refine pd ?_ | refine pe ?_ | refine pf ?_ | refine pg ?_ | apply And.intro) | (refine hK _ ?_; first | clear hK K hn0 hcl hΘ Θ | clear hK K hΘ Θ) | (with_reducible first | refine cw1 ?_ | refine cw2 ?_ | exact cw3 | exact cw4) | ((with_reducible first | refine cw5 (fun gg => ?_) | refine cw6 (fun gg => ?_) | refine cw7 (fun gg => ?_)); try simp only [gg]) | refine cs1 hG rfl ?_ ?_ | refine cs2 hG rfl ?_ ?_ | ((first | refine kg (alive16_sp _ _) rfl hΘ ?_ | refine rga hG (by kernel_rfl) (fun Θ K hΘ hK => ?_) | refine rgb hG (by kernel_rfl) (fun Θ K hΘ hK => ?_) | refine rgc defCl hG (by kernel_rfl) cl0 (by rfl) (by kernel_rfl) (fun Θ K hΘ hcl hn0 hK => ?_) | refine rgd defCl hG (by kernel_rfl) cl0 (by rfl) (by kernel_rfl) (fun Θ K hΘ hcl hn0 hK => ?_)); simp (maxSteps := 2000000) only [go_sem, seval, reduceCtorEq, f1]) | ((first | refine Post.splitN (fun gg => ?_) (fun gg => ?_) | refine PostB.splitN (fun gg => ?_) (fun gg => ?_) | refine Post.split (fun gg => ?_) (fun gg => ?_) | refine PostB.split (fun gg => ?_) (fun gg => ?_)) <;> simp (maxSteps := 2000000) only [go_sem, seval, reduceCtorEq, gg, f1]) | (refine finR (by simp only [go_sem, seval, reduceCtorEq, f1]; exact rfl) ?_; simp only [go_sem, seval, reduceCtorEq, f1]) | refine updL hM ?_ (by omega) | (with_reducible exact fun _ _ => rfl))
    all_goals (first | omega | (simp only [decide_eq_true_eq, decide_eq_false_iff_not] at *; omega) | (simp only [List.length_append, List.length_cons, List.length_nil] <;> omega) | exact one_bv _ | exact one_sv _ | skip)
  have f1 := eq_false h1
  have hA := alive16_sp
  have hC := CCheck_sp a ha l hok (by omega)
  have hR := R16Check_sp a ha l hok (by omega)
  obtain ⟨node, seq, hash, sig⟩ := a
  by_cases h2 : (sig.length : Int) > 2000
  · have f2 := eq_true h2
    intro M mn
    refine fnL (C := kc 25 [] []) (rs := [.tmp 4]) envOk Tryd.func10 (by kernel_rfl) rfl rfl rfl rfl rfl rfl (Low.flat _) ?_
    intro E hG hM
    repeat' (first | (with_reducible first | refine pa ?_ | refine pb ?_ | refine pc ?_ | refine nxt_n ?_ | refine nxt_e ?_ | refine nxt_r ?_ | refine blk_n ?_ | refine blk_r ?_ | refine blk_hit ?_ | refine blk_miss (by rfl) ?_ | refine pd ?_ | refine pe ?_ | refine pf ?_ | refine pg ?_ | apply And.intro) | (refine hK _ ?_; first | clear hK K hn0 hcl hΘ Θ | clear hK K hΘ Θ) | (with_reducible first | refine cw1 ?_ | refine cw2 ?_ | exact cw3 | exact cw4) | ((with_reducible first | refine cw5 (fun gg => ?_) | refine cw6 (fun gg => ?_) | refine cw7 (fun gg => ?_)); try simp only [gg]) | refine cs1 hG rfl ?_ ?_ | refine cs2 hG rfl ?_ ?_ | ((first | refine kg (hA _ _) rfl hΘ ?_ | refine rga hG (by kernel_rfl) (fun Θ K hΘ hK => ?_) | refine rgb hG (by kernel_rfl) (fun Θ K hΘ hK => ?_) | refine rgc defCl hG (by kernel_rfl) cl0 (by rfl) (by kernel_rfl) (fun Θ K hΘ hcl hn0 hK => ?_) | refine rgd defCl hG (by kernel_rfl) cl0 (by rfl) (by kernel_rfl) (fun Θ K hΘ hcl hn0 hK => ?_)); simp (maxSteps := 2000000) only [go_sem, seval, reduceCtorEq, f1, f2]) | ((first | refine Post.splitN (fun gg => ?_) (fun gg => ?_) | refine PostB.splitN (fun gg => ?_) (fun gg => ?_) | refine Post.split (fun gg => ?_) (fun gg => ?_) | refine PostB.split (fun gg => ?_) (fun gg => ?_)) <;> simp (maxSteps := 2000000) only [go_sem, seval, reduceCtorEq, gg, f1, f2]) | (refine finR (by simp only [go_sem, seval, reduceCtorEq, f1, f2]; exact rfl) ?_; simp only [go_sem, seval, reduceCtorEq, f1, f2]) | refine updL hM ?_ (by omega) | (with_reducible exact fun _ _ => rfl))
    all_goals (first | omega | (simp only [decide_eq_true_eq, decide_eq_false_iff_not] at *; omega) | (simp only [List.length_append, List.length_cons, List.length_nil] <;> omega) | exact one_bv _ | exact one_sv _ | skip)
  have f2 := eq_false h2
  intro M mn
  refine fnL (C := kc 25 [] []) (rs := [.tmp 4]) envOk Tryd.func10 (by kernel_rfl) rfl rfl rfl rfl rfl rfl (Low.flat _) ?_
  intro E hG hM
  repeat' (first | (with_reducible first | refine pa ?_ | refine pb ?_ | refine pc ?_ | refine nxt_n ?_ | refine nxt_e ?_ | refine nxt_r ?_ | refine blk_n ?_ | refine blk_r ?_ | refine blk_hit ?_ | refine blk_miss (by rfl) ?_ | refine pd ?_ | refine pe ?_ | refine pf ?_ | refine pg ?_ | apply And.intro) | (refine hK _ ?_; first | clear hK K hn0 hcl hΘ Θ | clear hK K hΘ Θ) | (with_reducible first | refine cw1 ?_ | refine cw2 ?_ | exact cw3 | exact cw4) | ((with_reducible first | refine cw5 (fun gg => ?_) | refine cw6 (fun gg => ?_) | refine cw7 (fun gg => ?_)); try simp only [gg]) | refine cs1 hG rfl ?_ ?_ | refine cs2 hG rfl ?_ ?_ | ((first | refine kg (hA _ _) rfl hΘ ?_ | refine kf (fun M n => hC M n) rfl (by decide) cl0 hΘ hcl hn0 ?_ | refine kf (fun M n => hR M n) rfl (by decide) cl0 hΘ hcl hn0 ?_ | refine rga hG (by kernel_rfl) (fun Θ K hΘ hK => ?_) | refine rgb hG (by kernel_rfl) (fun Θ K hΘ hK => ?_) | refine rgc defCl hG (by kernel_rfl) cl0 (by rfl) (by kernel_rfl) (fun Θ K hΘ hcl hn0 hK => ?_) | refine rgd defCl hG (by kernel_rfl) cl0 (by rfl) (by kernel_rfl) (fun Θ K hΘ hcl hn0 hK => ?_)); simp (maxSteps := 2000000) only [go_sem, seval, reduceCtorEq, f1, f2]) | ((first | refine Post.splitN (fun gg => ?_) (fun gg => ?_) | refine PostB.splitN (fun gg => ?_) (fun gg => ?_) | refine Post.split (fun gg => ?_) (fun gg => ?_) | refine PostB.split (fun gg => ?_) (fun gg => ?_)) <;> simp (maxSteps := 2000000) only [go_sem, seval, reduceCtorEq, gg, f1, f2]) | (refine finR (by simp only [go_sem, seval, reduceCtorEq, f1, f2]; exact rfl) ?_; simp only [go_sem, seval, reduceCtorEq, f1, f2]) | refine updL hM ?_ (by omega) | (with_reducible exact fun _ _ => rfl))
  all_goals (first | omega | (simp only [decide_eq_true_eq, decide_eq_false_iff_not] at *; omega) | (simp only [List.length_append, List.length_cons, List.length_nil] <;> omega) | exact one_bv _ | exact one_sv _ | skip)
end Go.VL

set_option linter.unusedVariables false
set_option linter.unusedSimpArgs false
set_option maxRecDepth 100000
open Go.RowKit
namespace Go.VL
open Go.Proofs
theorem au_cells {cs : List V} {d0 : Nat} (h : TC Tryd.prog (d0 + 3) 64 cs) : ∃ a : Au, cs = a.c ∧ a.ok := by
  replace h := tc_struct Tryd.underlying64 h
  obtain ⟨c1, r1, rfl, k1, h⟩ := h
  obtain ⟨c2, r2, rfl, k2, h⟩ := h
  obtain ⟨c3, r3, rfl, k3, h⟩ := h
  obtain ⟨c4, r4, rfl, k4, h⟩ := h
  have hr4 : r4 = [] := h
  subst hr4
  obtain ⟨n, rfl, hn⟩ := tc_int Tryd.underlying3 k1
  obtain ⟨q, rfl, hq⟩ := tc_int Tryd.underlying3 k2
  obtain ⟨x, rfl⟩ := tc_id32 Tryd.underlying52 Tryd.underlying5 k3
  obtain ⟨t, rfl, ht⟩ := tc_str Tryd.underlying9 k4
  exact ⟨⟨n, q, x, t⟩, by simp [Au.c], hn, hq, ht⟩
theorem au_arg {x : V} (h : TV Tryd.prog 3 64 x) : ∃ a : Au, x = .agg a.c ∧ a.ok := by
  obtain ⟨cs, rfl, k0⟩ := tv_agg Tryd.underlying64 h
  obtain ⟨e, rfl, he⟩ := au_cells (d0 := 0) k0
  exact ⟨e, rfl, he⟩
theorem nd_cells {cs : List V} {d0 : Nat} (h : TC Tryd.prog (d0 + 3) 33 cs) : ∃ a : Nd, cs = a.c ∧ a.ok := by
  replace h := tc_struct Tryd.underlying33 h
  obtain ⟨c1, r1, rfl, k1, h⟩ := h
  obtain ⟨c2, r2, rfl, k2, h⟩ := h
  have hr2 : r2 = [] := h
  subst hr2
  obtain ⟨x, rfl⟩ := tc_id16 Tryd.underlying31 Tryd.underlying5 k1
  obtain ⟨n, rfl, hn⟩ := tc_int Tryd.underlying3 k2
  exact ⟨⟨x, n⟩, by simp [Nd.c], hn⟩
theorem nds_arg {x : V} (h : TV Tryd.prog 4 65 x) : ∃ l : List Nd, x = .sl false 17 l.length (Nd.lC l) ∧ ((∀ e ∈ l, e.ok) ∧ l.length ≤ 140737488351232) := by
  obtain ⟨l, h1, h2, h3⟩ := tc_slice Nd.c Nd.ok Tryd.underlying65 (n := 17) (by kernel_rfl) (fun c hc => nd_cells (d0 := 0) hc) (tv_sl Tryd.underlying65 h)
  simp only [List.cons.injEq, and_true] at h1
  exact ⟨l, h1, h3, h2⟩
end Go.VL

set_option linter.unusedVariables false
namespace Go.Proofs.YtbceglggojnnaaaDoor
open Go.VL
abbrev shaLaid : List (String × DataW Unit) := [("tribunal/sha.start", Rows.laid_tribunal_sha_start), ("tribunal/sha.round", Rows.laid_tribunal_sha_round)]
theorem gStart : Tryd.prog.globalNamed "tribunal/sha.start" = some 0 := by kernel_rfl
theorem gRound : Tryd.prog.globalNamed "tribunal/sha.round" = some 1 := by kernel_rfl
theorem tStart : (Tryd.prog.globals[0]?).map (·.type) = some 172 := by kernel_rfl
theorem tRound : (Tryd.prog.globals[1]?).map (·.type) = some 178 := by kernel_rfl
theorem glOk {W : World} (h : laidMetH Tryd.prog shaLaid W) : GlOk (gOf W) W GL := by
  rw [MakeChecks.laidMetH_plain _ _ _ (by kernel_rfl)] at h
  obtain ⟨ps, ⟨g0, t0, cs0, f0, p0, q0, hg0, ht0, hv0, hd0, ⟨g1, t1, cs1, f1, p1, q1, hg1, ht1, hv1, hd1, _, _⟩, _⟩, _, _⟩ := h
  obtain rfl := Option.some.inj (gStart.symm.trans hg0)
  obtain rfl := Option.some.inj (gRound.symm.trans hg1)
  obtain rfl := Option.some.inj (tStart.symm.trans ht0)
  obtain rfl := Option.some.inj (tRound.symm.trans ht1)
  have c32 : Tryd.prog.cellsOf 158 = 1 := by kernel_rfl
  have h0 := laid_u32 (l := startN) Tryd.underlying172 Tryd.underlying158 c32 (by decide) hd0
  have h1 := laid_u32 (l := roundN) Tryd.underlying178 Tryd.underlying158 c32 (by decide) hd1
  have k0 := laid_ref (w := W) (g := 0) (l := startN) (fun i hi => by rw [World.var?_cell hg0 hv0 i]; exact h0 i (by simpa [startN_len] using hi)) (by decide)
  have k1 := laid_ref (w := W) (g := 1) (l := roundN) (fun i hi => by rw [World.var?_cell hg1 hv1 i]; exact h1 i (by simpa [roundN_len] using hi)) (by decide)
  intro n cs hn
  unfold GL at hn
  split at hn
  · rename_i e; subst e; cases hn; first | exact k0 | exact k1
  · split at hn
    · rename_i e; subst e; cases hn; first | exact k1 | exact k0
    · cases hn
theorem door_met (os : Os) (args : Array Value) : laidMetH Tryd.prog shaLaid ((World.doorLaid Tryd.prog 400 os).forCall (fun _ _ => 0) ⟨#[], args, []⟩).memory :=
  laidMetH_of_parts3 (fuel := 8) (laidMet_of_run' 8 (by kernel_rfl) (by kernel_rfl)) (by kernel_rfl) (by kernel_rfl)
theorem own : ownKnob Tryd.prog.godebug = none := by kernel_rfl
theorem laidOut : laidOutB Tryd.prog = true := by kernel_rfl
end Go.Proofs.YtbceglggojnnaaaDoor
