/- Part TCut of the proof: made for this claim. -/
import Derived.Test.YtbceglggojnnaaaDoorTOf
set_option linter.unusedVariables false
set_option linter.unusedSimpArgs false
set_option maxRecDepth 100000
set_option maxHeartbeats 8000000
open Go.RowKit
namespace Go.VL
open Go.Proofs
/-! The half of a digest. -/
theorem Cut_sp (d : Id32) : Rt 62 [.agg (bv d.1)] (.agg (bv (cutE d).1)) := by
  intro M mn
  refine fnL (C := kc 6 [] []) (rs := [.cell 2 31]) envOk Tryd.func62 (by kernel_rfl) rfl rfl rfl rfl rfl rfl (lowAgg (FlatS.bv _)) ?_
  intro E hG hM
  repeat' (first | (with_reducible first | refine pa ?_ | refine pb ?_ | refine pc ?_ | refine nxt_n ?_ | refine nxt_e ?_ | refine nxt_r ?_ | refine blk_n ?_ | refine blk_r ?_ | refine blk_hit ?_ | refine blk_miss (by rfl) ?_ | refine pd ?_ | refine pe ?_ | refine pf ?_ | refine pg ?_ | apply And.intro) | (refine hK _ ?_; first | clear hK K hn0 hcl hΘ Θ | clear hK K hΘ Θ) | (with_reducible first | refine cw1 ?_ | refine cw2 ?_ | exact cw3 | exact cw4) | ((with_reducible first | refine cw5 (fun gg => ?_) | refine cw6 (fun gg => ?_) | refine cw7 (fun gg => ?_)); try simp only [gg]) | refine cs1 hG rfl ?_ ?_ | refine cs2 hG rfl ?_ ?_ | ((first | refine rga hG (by kernel_rfl) (fun Θ K hΘ hK => ?_) | refine rgb hG (by kernel_rfl) (fun Θ K hΘ hK => ?_) | refine rgc defCl hG (by kernel_rfl) cl0 (by rfl) (by kernel_rfl) (fun Θ K hΘ hcl hn0 hK => ?_) | refine rgd defCl hG (by kernel_rfl) cl0 (by rfl) (by kernel_rfl) (fun Θ K hΘ hcl hn0 hK => ?_)); simp (maxSteps := 2000000) only [go_sem, seval, List.append_eq, Nat.reduceEqDiff, Nat.reduceLeDiff, reduceIte, reduceCtorEq, cut_take]) | ((first | refine Post.splitN (fun gg => ?_) (fun gg => ?_) | refine PostB.splitN (fun gg => ?_) (fun gg => ?_) | refine Post.split (fun gg => ?_) (fun gg => ?_) | refine PostB.split (fun gg => ?_) (fun gg => ?_)) <;> simp (maxSteps := 2000000) only [go_sem, seval, List.append_eq, Nat.reduceEqDiff, Nat.reduceLeDiff, reduceIte, reduceCtorEq, gg, cut_take]) | ((first | refine finR (by simp only [go_sem, seval, List.append_eq, Nat.reduceEqDiff, Nat.reduceLeDiff, reduceIte, reduceCtorEq, cut_take]; exact rfl) ?_ | refine finN (by simp only [go_sem, seval, List.append_eq, Nat.reduceEqDiff, Nat.reduceLeDiff, reduceIte, reduceCtorEq, cut_take]; exact rfl) ?_); simp only [go_sem, seval, List.append_eq, Nat.reduceEqDiff, Nat.reduceLeDiff, reduceIte, reduceCtorEq, cut_take]) | refine updL hM ?_ (by omega) | (with_reducible exact fun _ _ => rfl))
  all_goals (first | omega | (simp only [decide_eq_true_eq, decide_eq_false_iff_not] at *; omega) | (simp only [List.length_append, List.length_cons, List.length_nil] <;> omega) | exact one_bv _ | exact one_sv _ | skip)
end Go.VL
