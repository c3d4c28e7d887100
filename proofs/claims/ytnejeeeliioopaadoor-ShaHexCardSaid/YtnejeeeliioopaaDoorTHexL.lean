/- Part THexL of the proof: made for this claim. -/
import Derived.Test.YtnejeeeliioopaaDoorTHex
set_option linter.unusedVariables false
set_option linter.unusedSimpArgs false
set_option maxRecDepth 100000
set_option maxHeartbeats 8000000
open Go.RowKit
namespace Go.VL
open Go.Proofs
/-! The law ShaHex. -/
theorem ShaHex_sp (a b : Id32) : Rt 5 [.agg (bv a.1), .agg (bv b.1)] (.flat (.bool true)) := by
  have ha := hexL_len a.1
  have hb := hexL_len b.1
  rw [a.2] at ha
  rw [b.2] at hb
  have f1 : (((64 : Nat) : Int) = 64) = True := eq_true rfl
  have hta : (hexL a.1).take 32 = hexL (cutE a).1 := hexL_take a.1 16
  have htb : (hexL b.1).take 32 = hexL (cutE b).1 := hexL_take b.1 16
  have hj1 : (hexL a.1 = hexL b.1) = (a.1 = b.1) := propext ⟨hexL_inj, fun e => by rw [e]⟩
  have hj2 : (hexL (cutE a).1 = hexL (cutE b).1) = ((cutE a).1 = (cutE b).1) := propext ⟨hexL_inj, fun e => by rw [e]⟩
  intro M mn
  refine fnL (C := kc 58 [] []) (rs := [.tmp 4]) envOk Tryd.func5 (by kernel_rfl) rfl rfl rfl rfl rfl rfl (Low.flat _) ?_
  intro E hG hM
  repeat' (first | (with_reducible first | refine pa ?_ | refine pb ?_ | refine pc ?_ | refine nxt_n ?_ | refine nxt_e ?_ | refine nxt_r ?_ | refine blk_n ?_ | refine blk_r ?_ | refine blk_hit ?_ | refine blk_miss (by rfl) ?_ | refine pd ?_ | refine pe ?_ | refine pf ?_ | refine pg ?_ | apply And.intro) | (refine hK _ ?_; first | clear hK K hn0 hcl hΘ Θ | clear hK K hΘ Θ) | (with_reducible first | refine cw1 ?_ | refine cw2 ?_ | exact cw3 | exact cw4) | ((with_reducible first | refine cw5 (fun gg => ?_) | refine cw6 (fun gg => ?_) | refine cw7 (fun gg => ?_)); try simp only [gg]) | refine cs1 hG rfl ?_ ?_ | refine cs2 hG rfl ?_ ?_ | ((first | refine kg (alive2_sp _ _) rfl hΘ ?_ | refine kf (fun M n => Hex_sp a M n) rfl (by decide) cl0 hΘ hcl ?_ | refine kf (fun M n => Hex_sp b M n) rfl (by decide) cl0 hΘ hcl ?_ | refine kg (Cut_sp a _ _) rfl hΘ ?_ | refine rga hG (by kernel_rfl) (fun Θ K hΘ hK => ?_) | refine rgb hG (by kernel_rfl) (fun Θ K hΘ hK => ?_) | refine rgc defCl hG (by kernel_rfl) cl0 (by rfl) (by kernel_rfl) (fun Θ K hΘ hcl hn0 hK => ?_) | refine rgd defCl hG (by kernel_rfl) cl0 (by rfl) (by kernel_rfl) (fun Θ K hΘ hcl hn0 hK => ?_)); simp (maxSteps := 2000000) only [go_sem, seval, Nat.reduceEqDiff, Nat.reduceLeDiff, reduceIte, reduceCtorEq, ha, hb, f1, hta, htb, hj1, hj2]) | ((first | refine Post.splitN (fun gg => ?_) (fun gg => ?_) | refine PostB.splitN (fun gg => ?_) (fun gg => ?_) | refine Post.split (fun gg => ?_) (fun gg => ?_) | refine PostB.split (fun gg => ?_) (fun gg => ?_)) <;> simp (maxSteps := 2000000) only [go_sem, seval, Nat.reduceEqDiff, Nat.reduceLeDiff, reduceIte, reduceCtorEq, gg, ha, hb, f1, hta, htb, hj1, hj2]) | ((first | refine finR (by simp only [go_sem, seval, Nat.reduceEqDiff, Nat.reduceLeDiff, reduceIte, reduceCtorEq, ha, hb, f1, hta, htb, hj1, hj2]; exact rfl) ?_ | refine finN (by simp only [go_sem, seval, Nat.reduceEqDiff, Nat.reduceLeDiff, reduceIte, reduceCtorEq, ha, hb, f1, hta, htb, hj1, hj2]; exact rfl) ?_); simp only [go_sem, seval, Nat.reduceEqDiff, Nat.reduceLeDiff, reduceIte, reduceCtorEq, ha, hb, f1, hta, htb, hj1, hj2]) | refine updL hM ?_ (by omega) | (with_reducible exact fun _ _ => rfl))
  all_goals (first | omega | (simp only [decide_eq_true_eq, decide_eq_false_iff_not] at *; omega) | (simp only [List.length_append, List.length_cons, List.length_nil]; omega) | exact one_bv _ | exact one_sv _ | skip)
  have hl := a.2
  have he := (cutE a).2
  refine WC.loopA (fun q : Nat × Id32 => ⟨[(30, .flat (.int .i64 q.1)), (8, .bp (mn + 1 + 1 + 1) 0), (7, .bp (mn + 1 + 1) 0), (6, .flat (.string (bs (hexL b.1)))), (5, .flat (.string (bs (hexL a.1)))), (3, .bp (mn + 1) 0), (2, .bp mn 0)], upd (upd (upd (upd M mn (some (bv a.1))) (mn + 1) (some (bv b.1))) (mn + 1 + 1) (some (bv q.2.1))) (mn + 1 + 1 + 1) (some (bv (cutE a).1)), mn + 1 + 1 + 1 + 1⟩) (fun q => 16 - q.1) (fun q => q.1 ≤ 16 ∧ q.2.1.take q.1 = (cutE a).1.take q.1) (0, z32) ⟨by simp, by simp⟩ (sbs (by simp (maxSteps := 2000000) only [go_sem, seval, Nat.reduceEqDiff, Nat.reduceLeDiff, reduceIte, reduceCtorEq]) rfl rfl) ?_
  rintro ⟨i, l⟩ ⟨hi, hq⟩
  simp only at hi hq ⊢
  have hll := l.2
  by_cases h : i < 16
  · have f3 : ((i : Int) < 16) = True := eq_true (by omega)
    have g3 : (i < 16) = True := eq_true h
    have g4 : (i < 32) = True := eq_true (by omega)
    have v1 : IntKind.i64.wrap (i + 1) = ((i + 1 : Nat) : Int) := by rw [wi (by omega) (by omega)]; omega
    have hs : ∀ x y z, upd (upd (upd (upd M mn x) (mn + 1) y) (mn + 1 + 1) z) (mn + 1 + 1 + 1) = fun t => upd (upd (upd (upd M mn x) (mn + 1) y) (mn + 1 + 1) z) (mn + 1 + 1 + 1) t := fun _ _ _ => rfl
    have hsw : ∀ (f : Mem) x y, upd (upd f (mn + 1 + 1 + 1) x) (mn + 1 + 1) y = upd (upd f (mn + 1 + 1) y) (mn + 1 + 1 + 1) x := fun f x y => upd_swap (by omega)
    repeat' (first | (with_reducible first | refine pa ?_ | refine pb ?_ | refine pc ?_ | refine nxt_n ?_ | refine nxt_e ?_ | refine nxt_r ?_ | refine blk_n ?_ | refine blk_r ?_ | refine blk_hit ?_ | refine blk_miss (by rfl) ?_ | refine pd ?_ | refine pe ?_ | refine pf ?_ | refine pg ?_ | apply And.intro) | (refine hK _ ?_; first | clear hK K hn0 hcl hΘ Θ | clear hK K hΘ Θ) | (with_reducible first | refine cw1 ?_ | refine cw2 ?_ | exact cw3 | exact cw4) | ((with_reducible first | refine cw5 (fun gg => ?_) | refine cw6 (fun gg => ?_) | refine cw7 (fun gg => ?_)); try simp only [gg]) | refine cs1 hG rfl ?_ ?_ | refine cs2 hG rfl ?_ ?_ | ((first | refine rga hG (by kernel_rfl) (fun Θ K hΘ hK => ?_) | refine rgb hG (by kernel_rfl) (fun Θ K hΘ hK => ?_) | refine rgc defCl hG (by kernel_rfl) cl0 (by rfl) (by kernel_rfl) (fun Θ K hΘ hcl hn0 hK => ?_) | refine rgd defCl hG (by kernel_rfl) cl0 (by rfl) (by kernel_rfl) (fun Θ K hΘ hcl hn0 hK => ?_)); simp (maxSteps := 2000000) only [go_sem, seval, Nat.reduceEqDiff, Nat.reduceLeDiff, reduceIte, reduceCtorEq, f3, g3, g4, v1, he, hll, hsw]) | ((first | refine Post.splitN (fun gg => ?_) (fun gg => ?_) | refine PostB.splitN (fun gg => ?_) (fun gg => ?_) | refine Post.split (fun gg => ?_) (fun gg => ?_) | refine PostB.split (fun gg => ?_) (fun gg => ?_)) <;> simp (maxSteps := 2000000) only [go_sem, seval, Nat.reduceEqDiff, Nat.reduceLeDiff, reduceIte, reduceCtorEq, gg, f3, g3, g4, v1, he, hll, hsw]) | ((first | refine finR (by simp only [go_sem, seval, Nat.reduceEqDiff, Nat.reduceLeDiff, reduceIte, reduceCtorEq, f3, g3, g4, v1, he, hll, hsw]; exact rfl) ?_ | refine finN (by simp only [go_sem, seval, Nat.reduceEqDiff, Nat.reduceLeDiff, reduceIte, reduceCtorEq, f3, g3, g4, v1, he, hll, hsw]; exact rfl) ?_); simp only [go_sem, seval, Nat.reduceEqDiff, Nat.reduceLeDiff, reduceIte, reduceCtorEq, f3, g3, g4, v1, he, hll, hsw]) | refine updL hM ?_ (by omega) | (with_reducible exact fun _ _ => rfl))
    all_goals (first | omega | (simp only [decide_eq_true_eq, decide_eq_false_iff_not] at *; omega) | (simp only [List.length_append, List.length_cons, List.length_nil]; omega) | exact one_bv _ | exact one_sv _ | skip)
    exact ⟨(i + 1, ⟨l.1.set i ((cutE a).1.getD i 0), by rw [List.length_set]; exact l.2⟩), ⟨by simp only; omega, by simp only; rw [take_set_snoc _ _ _ (by omega), hq, take_snoc _ _ 0 (by omega)]⟩, by simp only; omega, (sbs (by simp (maxSteps := 2000000) only [go_sem, seval, Nat.reduceEqDiff, Nat.reduceLeDiff, reduceIte, reduceCtorEq]) rfl rfl)⟩
  · have f3 : ((i : Int) < 16) = False := eq_false (by omega)
    have e : i = 16 := by omega
    subst e
    have hll : (hexL l.1).take 32 = hexL (cutE a).1 := by
      rw [hexL_take l.1 16, hq, List.take_of_length_le (by omega)]
    have hl2 : (hexL l.1).length = 64 := by rw [hexL_len, l.2]
    repeat' (first | (with_reducible first | refine pa ?_ | refine pb ?_ | refine pc ?_ | refine nxt_n ?_ | refine nxt_e ?_ | refine nxt_r ?_ | refine blk_n ?_ | refine blk_r ?_ | refine blk_hit ?_ | refine blk_miss (by rfl) ?_ | refine pd ?_ | refine pe ?_ | refine pf ?_ | refine pg ?_ | apply And.intro) | (refine hK _ ?_; first | clear hK K hn0 hcl hΘ Θ | clear hK K hΘ Θ) | (with_reducible first | refine cw1 ?_ | refine cw2 ?_ | exact cw3 | exact cw4) | ((with_reducible first | refine cw5 (fun gg => ?_) | refine cw6 (fun gg => ?_) | refine cw7 (fun gg => ?_)); try simp only [gg]) | refine cs1 hG rfl ?_ ?_ | refine cs2 hG rfl ?_ ?_ | ((first | refine kf (fun M n => Hex_sp l M n) rfl (by decide) cl0 hΘ hcl ?_ | refine kf (fun M n => Cut_sp a M n) rfl (by decide) cl0 hΘ hcl ?_ | refine kf (fun M n => Cut_sp b M n) rfl (by decide) cl0 hΘ hcl ?_ | refine rga hG (by kernel_rfl) (fun Θ K hΘ hK => ?_) | refine rgb hG (by kernel_rfl) (fun Θ K hΘ hK => ?_) | refine rgc defCl hG (by kernel_rfl) cl0 (by rfl) (by kernel_rfl) (fun Θ K hΘ hcl hn0 hK => ?_) | refine rgd defCl hG (by kernel_rfl) cl0 (by rfl) (by kernel_rfl) (fun Θ K hΘ hcl hn0 hK => ?_)); simp (maxSteps := 2000000) only [go_sem, seval, Nat.reduceEqDiff, Nat.reduceLeDiff, reduceIte, reduceCtorEq, f3, ha, hb, hl2, hta, htb, hj1, hj2, hll]) | ((first | refine Post.splitN (fun gg => ?_) (fun gg => ?_) | refine PostB.splitN (fun gg => ?_) (fun gg => ?_) | refine Post.split (fun gg => ?_) (fun gg => ?_) | refine PostB.split (fun gg => ?_) (fun gg => ?_)) <;> simp (maxSteps := 2000000) only [go_sem, seval, Nat.reduceEqDiff, Nat.reduceLeDiff, reduceIte, reduceCtorEq, gg, f3, ha, hb, hl2, hta, htb, hj1, hj2, hll]) | ((first | refine finR (by simp only [go_sem, seval, Nat.reduceEqDiff, Nat.reduceLeDiff, reduceIte, reduceCtorEq, f3, ha, hb, hl2, hta, htb, hj1, hj2, hll]; exact rfl) ?_ | refine finN (by simp only [go_sem, seval, Nat.reduceEqDiff, Nat.reduceLeDiff, reduceIte, reduceCtorEq, f3, ha, hb, hl2, hta, htb, hj1, hj2, hll]; exact rfl) ?_); simp only [go_sem, seval, Nat.reduceEqDiff, Nat.reduceLeDiff, reduceIte, reduceCtorEq, f3, ha, hb, hl2, hta, htb, hj1, hj2, hll]) | refine updL hM ?_ (by omega) | (with_reducible exact fun _ _ => rfl))
    all_goals (first | omega | (simp only [decide_eq_true_eq, decide_eq_false_iff_not] at *; omega) | (simp only [List.length_append, List.length_cons, List.length_nil]; omega) | exact one_bv _ | exact one_sv _ | skip)
    all_goals trace_state
end Go.VL
