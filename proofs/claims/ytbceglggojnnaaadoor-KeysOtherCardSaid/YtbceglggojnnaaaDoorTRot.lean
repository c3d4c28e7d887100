/- Part TRot of the proof: made for this claim. -/
import Derived.Test.YtbceglggojnnaaaDoorTEnv
import Derived.Test.YtbceglggojnnaaaDoorShaSpec
set_option linter.unusedVariables false
set_option linter.unusedSimpArgs false
set_option maxRecDepth 100000
set_option maxHeartbeats 4000000
open Go.RowKit
namespace Go.VL
open Go.Proofs
/-! Words turned. -/
theorem rot_and : ∀ k : Fin 32, 1 ≤ k.val → andI .u64 (IntKind.u64.wrap (-(k.val : Int))) 31 = ((32 - k.val : Nat) : Int) := by decide
theorem Rot_sp (x : UInt32) (n : Int) (h : decide (-31 ≤ n) && decide (n ≤ -1) = true) : Rt 127 [.flat (.int .u32 x.toNat), .flat (.int .i64 n)] (.flat (.int .u32 (rotr x (-n).toNat).toNat)) := by
  simp only [Bool.and_eq_true, decide_eq_true_eq] at h
  obtain ⟨k, hk, rfl⟩ : ∃ k : Nat, k < 32 ∧ n = -(k : Int) := ⟨(-n).toNat, by omega, by omega⟩
  have e1 := rot_and ⟨k, hk⟩ (show 1 ≤ k by omega)
  simp only at e1
  have e2 : IntKind.u64.wrap (32 - ((32 - k : Nat) : Int)) = (k : Int) := by rw [show (32 - ((32 - k : Nat) : Int)) = (k : Int) by omega, wrap_u64n, Nat.mod_eq_of_lt (by omega)]
  have e3 := w_shlN x (32 - k) (by omega)
  have e4 := w_shrN x k (by omega)
  have e5 : (- -(k : Int)).toNat = k := by omega
  rw [e5]
  have e6 : rotr x k = shl32 x (32 - k) ||| shr32 x k := UInt32.or_comm _ _
  rw [e6]
  intro M mn
  refine fnL (C := kc 17 [] []) (rs := [.tmp 4]) envOk Tryd.func127 (by kernel_rfl) rfl rfl rfl rfl rfl rfl (Low.flat _) ?_
  intro E hG hM
  repeat' (first | (with_reducible first | refine pa ?_ | refine pb ?_ | refine pc ?_ | refine nxt_n ?_ | refine nxt_e ?_ | refine nxt_r ?_ | refine blk_n ?_ | refine blk_r ?_ | refine blk_hit ?_ | refine blk_miss (by rfl) ?_ | refine pd ?_ | refine pe ?_ | refine pf ?_ | refine pg ?_ | apply And.intro) | (refine hK _ ?_; first | clear hK K hn0 hcl hΘ Θ | clear hK K hΘ Θ) | (with_reducible first | refine cw1 ?_ | refine cw2 ?_ | exact cw3 | exact cw4) | ((with_reducible first | refine cw5 (fun gg => ?_) | refine cw6 (fun gg => ?_) | refine cw7 (fun gg => ?_)); try simp only [gg]) | refine cs1 hG rfl ?_ ?_ | refine cs2 hG rfl ?_ ?_ | ((first | refine rga hG (by kernel_rfl) (fun Θ K hΘ hK => ?_) | refine rgb hG (by kernel_rfl) (fun Θ K hΘ hK => ?_) | refine rgc defCl hG (by kernel_rfl) cl0 (by rfl) (by kernel_rfl) (fun Θ K hΘ hcl hn0 hK => ?_) | refine rgd defCl hG (by kernel_rfl) cl0 (by rfl) (by kernel_rfl) (fun Θ K hΘ hcl hn0 hK => ?_)); simp (maxSteps := 2000000) only [go_sem, seval, List.append_eq, Nat.reduceEqDiff, Nat.reduceLeDiff, reduceIte, reduceCtorEq, e1, e2, e3, e4]) | ((first | refine Post.splitN (fun gg => ?_) (fun gg => ?_) | refine PostB.splitN (fun gg => ?_) (fun gg => ?_) | refine Post.split (fun gg => ?_) (fun gg => ?_) | refine PostB.split (fun gg => ?_) (fun gg => ?_)) <;> simp (maxSteps := 2000000) only [go_sem, seval, List.append_eq, Nat.reduceEqDiff, Nat.reduceLeDiff, reduceIte, reduceCtorEq, gg, e1, e2, e3, e4]) | ((first | refine finR (by simp only [go_sem, seval, List.append_eq, Nat.reduceEqDiff, Nat.reduceLeDiff, reduceIte, reduceCtorEq, e1, e2, e3, e4]; exact rfl) ?_ | refine finN (by simp only [go_sem, seval, List.append_eq, Nat.reduceEqDiff, Nat.reduceLeDiff, reduceIte, reduceCtorEq, e1, e2, e3, e4]; exact rfl) ?_); simp only [go_sem, seval, List.append_eq, Nat.reduceEqDiff, Nat.reduceLeDiff, reduceIte, reduceCtorEq, e1, e2, e3, e4]) | refine updL hM ?_ (by omega) | (with_reducible exact fun _ _ => rfl))
  all_goals (first | omega | (simp only [decide_eq_true_eq, decide_eq_false_iff_not] at *; omega) | (simp only [List.length_append, List.length_cons, List.length_nil] <;> omega) | exact one_bv _ | exact one_sv _ | skip)
end Go.VL
