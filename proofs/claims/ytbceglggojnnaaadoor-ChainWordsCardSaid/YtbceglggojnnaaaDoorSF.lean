/- Part SF of the proof: made for this claim. -/
import Derived.Test.YtbceglggojnnaaaDoorSE
set_option linter.unusedVariables false
set_option linter.unusedSimpArgs false
set_option maxRecDepth 100000
set_option maxHeartbeats 8000000
open Go.RowKit
namespace Go.VL
open Go.Proofs
theorem tdiv2 (a : Int) : a.tdiv 2 = (if 0 ≤ a then a / 2 else -((-a) / 2)) ∧ a.tmod 2 = a - 2 * a.tdiv 2 := by
  refine ⟨?_, Int.tmod_def a 2⟩
  split
  · rename_i h; exact Int.tdiv_eq_ediv_of_nonneg h
  · rw [← Int.tdiv_eq_ediv_of_nonneg (by omega), Int.neg_tdiv, Int.neg_neg]
theorem Rhalf_sp (a : Int) (ha : inR a) : Rt 106 [.flat (.int .i64 a)] (.flat (.int .i64 (a / 2))) := by
  have ha' : -9223372036854775808 ≤ a ∧ a ≤ 9223372036854775807 := ha
  obtain ⟨t1, t2⟩ := tdiv2 a
  have hq : quoI .i64 a 2 = a.tdiv 2 := by
    show IntKind.i64.wrap (a.tdiv 2) = _
    rw [wi (by split at t1 <;> omega) (by split at t1 <;> omega)]
  by_cases h0 : a < 0
  · have f1 := eq_true h0
    by_cases h1 : a.tmod 2 = 0
    · have f2 := eq_true h1
      have e : a.tdiv 2 = a / 2 := by split at t1 <;> omega
      intro M mn
      refine fnL (C := kc 15 [] []) (rs := [.tmp 2]) envOk Tryd.func106 (by kernel_rfl) rfl rfl rfl rfl rfl rfl (Low.flat _) ?_
      intro E hG hM
      repeat' (first | (with_reducible first | refine pa ?_ | refine pb ?_ | refine pc ?_ | refine nxt_n ?_ | refine nxt_e ?_ | refine nxt_r ?_ | refine blk_n ?_ | refine blk_r ?_ | refine blk_hit ?_ | refine blk_miss (by rfl) ?_ | refine pd ?_ | refine pe ?_ | refine pf ?_ | refine pg ?_ | apply And.intro) | (refine hK _ ?_; clear hK K hΘ Θ) | (with_reducible first | refine cw1 ?_ | refine cw2 ?_ | exact cw3 | exact cw4) | ((with_reducible first | refine cw5 (fun gg => ?_) | refine cw6 (fun gg => ?_) | refine cw7 (fun gg => ?_)); try simp only [gg]) | refine cs1 hG rfl ?_ ?_ | refine cs2 hG rfl ?_ ?_ | ((first | refine rga hG (by kernel_rfl) (fun Θ K hΘ hK => ?_) | refine rgb hG (by kernel_rfl) (fun Θ K hΘ hK => ?_)); simp (maxSteps := 2000000) only [go_sem, seval, reduceCtorEq, f1, f2, hq, e]) | ((first | refine Post.splitN (fun gg => ?_) (fun gg => ?_) | refine Post.split (fun gg => ?_) (fun gg => ?_)) <;> simp (maxSteps := 2000000) only [go_sem, seval, reduceCtorEq, gg, f1, f2, hq, e]) | (refine finR (by simp only [go_sem, seval, reduceCtorEq, f1, f2, hq, e]; exact rfl) ?_; simp only [go_sem, seval, reduceCtorEq, f1, f2, hq, e]) | refine updL hM ?_ (by omega) | (with_reducible exact fun _ _ => rfl))
      all_goals (first | omega | (simp only [decide_eq_true_eq, decide_eq_false_iff_not] at *; omega) | (simp only [List.length_append, List.length_cons, List.length_nil] <;> omega) | exact one_bv _ | exact one_sv _ | skip)
    · have f2 := eq_false h1
      have e : IntKind.i64.wrap (a.tdiv 2 - 1) = a / 2 := by rw [wi (by split at t1 <;> omega) (by split at t1 <;> omega)]; split at t1 <;> omega
      intro M mn
      refine fnL (C := kc 15 [] []) (rs := [.tmp 2]) envOk Tryd.func106 (by kernel_rfl) rfl rfl rfl rfl rfl rfl (Low.flat _) ?_
      intro E hG hM
      repeat' (first | (with_reducible first | refine pa ?_ | refine pb ?_ | refine pc ?_ | refine nxt_n ?_ | refine nxt_e ?_ | refine nxt_r ?_ | refine blk_n ?_ | refine blk_r ?_ | refine blk_hit ?_ | refine blk_miss (by rfl) ?_ | refine pd ?_ | refine pe ?_ | refine pf ?_ | refine pg ?_ | apply And.intro) | (refine hK _ ?_; clear hK K hΘ Θ) | (with_reducible first | refine cw1 ?_ | refine cw2 ?_ | exact cw3 | exact cw4) | ((with_reducible first | refine cw5 (fun gg => ?_) | refine cw6 (fun gg => ?_) | refine cw7 (fun gg => ?_)); try simp only [gg]) | refine cs1 hG rfl ?_ ?_ | refine cs2 hG rfl ?_ ?_ | ((first | refine rga hG (by kernel_rfl) (fun Θ K hΘ hK => ?_) | refine rgb hG (by kernel_rfl) (fun Θ K hΘ hK => ?_)); simp (maxSteps := 2000000) only [go_sem, seval, reduceCtorEq, f1, f2, hq, e]) | ((first | refine Post.splitN (fun gg => ?_) (fun gg => ?_) | refine Post.split (fun gg => ?_) (fun gg => ?_)) <;> simp (maxSteps := 2000000) only [go_sem, seval, reduceCtorEq, gg, f1, f2, hq, e]) | (refine finR (by simp only [go_sem, seval, reduceCtorEq, f1, f2, hq, e]; exact rfl) ?_; simp only [go_sem, seval, reduceCtorEq, f1, f2, hq, e]) | refine updL hM ?_ (by omega) | (with_reducible exact fun _ _ => rfl))
      all_goals (first | omega | (simp only [decide_eq_true_eq, decide_eq_false_iff_not] at *; omega) | (simp only [List.length_append, List.length_cons, List.length_nil] <;> omega) | exact one_bv _ | exact one_sv _ | skip)
  · have f1 := eq_false h0
    have e : a.tdiv 2 = a / 2 := by split at t1 <;> omega
    intro M mn
    refine fnL (C := kc 15 [] []) (rs := [.tmp 2]) envOk Tryd.func106 (by kernel_rfl) rfl rfl rfl rfl rfl rfl (Low.flat _) ?_
    intro E hG hM
    repeat' (first | (with_reducible first | refine pa ?_ | refine pb ?_ | refine pc ?_ | refine nxt_n ?_ | refine nxt_e ?_ | refine nxt_r ?_ | refine blk_n ?_ | refine blk_r ?_ | refine blk_hit ?_ | refine blk_miss (by rfl) ?_ | refine pd ?_ | refine pe ?_ | refine pf ?_ | refine pg ?_ | apply And.intro) | (refine hK _ ?_; clear hK K hΘ Θ) | (with_reducible first | refine cw1 ?_ | refine cw2 ?_ | exact cw3 | exact cw4) | ((with_reducible first | refine cw5 (fun gg => ?_) | refine cw6 (fun gg => ?_) | refine cw7 (fun gg => ?_)); try simp only [gg]) | refine cs1 hG rfl ?_ ?_ | refine cs2 hG rfl ?_ ?_ | ((first | refine rga hG (by kernel_rfl) (fun Θ K hΘ hK => ?_) | refine rgb hG (by kernel_rfl) (fun Θ K hΘ hK => ?_)); simp (maxSteps := 2000000) only [go_sem, seval, reduceCtorEq, f1, hq, e]) | ((first | refine Post.splitN (fun gg => ?_) (fun gg => ?_) | refine Post.split (fun gg => ?_) (fun gg => ?_)) <;> simp (maxSteps := 2000000) only [go_sem, seval, reduceCtorEq, gg, f1, hq, e]) | (refine finR (by simp only [go_sem, seval, reduceCtorEq, f1, hq, e]; exact rfl) ?_; simp only [go_sem, seval, reduceCtorEq, f1, hq, e]) | refine updL hM ?_ (by omega) | (with_reducible exact fun _ _ => rfl))
    all_goals (first | omega | (simp only [decide_eq_true_eq, decide_eq_false_iff_not] at *; omega) | (simp only [List.length_append, List.length_cons, List.length_nil] <;> omega) | exact one_bv _ | exact one_sv _ | skip)
theorem RClimb_sp (x : Id16) (a : Int) (ha : inR a) (p : List Id16) (hp : p.length ≤ 1000000) : Rt 71 [.agg (bv x.1), .flat (.int .i64 a), .sl false 16 p.length (esC p)] (.agg (bv (climbE x a p).1)) := by
  intro M mn
  refine fnL (C := kc 37 [] []) (rs := [.cell 6 31]) envOk Tryd.func71 (by kernel_rfl) rfl rfl rfl rfl rfl rfl (lowAgg (FlatS.bv _)) ?_
  intro E hG hM
  repeat' (first | (with_reducible first | refine pa ?_ | refine pb ?_ | refine pc ?_ | refine nxt_n ?_ | refine nxt_e ?_ | refine nxt_r ?_ | refine blk_n ?_ | refine blk_r ?_ | refine blk_hit ?_ | refine blk_miss (by rfl) ?_ | refine pd ?_ | refine pe ?_ | refine pf ?_ | refine pg ?_ | apply And.intro) | (refine hK _ ?_; clear hK K hΘ Θ) | (with_reducible first | refine cw1 ?_ | refine cw2 ?_ | exact cw3 | exact cw4) | ((with_reducible first | refine cw5 (fun gg => ?_) | refine cw6 (fun gg => ?_) | refine cw7 (fun gg => ?_)); try simp only [gg]) | refine cs1 hG rfl ?_ ?_ | refine cs2 hG rfl ?_ ?_ | ((first | refine rga hG (by kernel_rfl) (fun Θ K hΘ hK => ?_) | refine rgb hG (by kernel_rfl) (fun Θ K hΘ hK => ?_)); simp (maxSteps := 2000000) only [go_sem, seval, reduceCtorEq]) | ((first | refine Post.splitN (fun gg => ?_) (fun gg => ?_) | refine Post.split (fun gg => ?_) (fun gg => ?_)) <;> simp (maxSteps := 2000000) only [go_sem, seval, reduceCtorEq, gg]) | (refine finR (by simp only [go_sem, seval, reduceCtorEq]; exact rfl) ?_; simp only [go_sem, seval, reduceCtorEq]) | refine updL hM ?_ (by omega) | (with_reducible exact fun _ _ => rfl))
  all_goals (first | omega | (simp only [decide_eq_true_eq, decide_eq_false_iff_not] at *; omega) | (simp only [List.length_append, List.length_cons, List.length_nil] <;> omega) | exact one_bv _ | exact one_sv _ | skip)
  refine WC.loopA (fun q : Nat × Id16 × Int × Mem × Nat => ⟨[(12, .flat (.int .i64 q.1)), (11, .flat (.int .i64 p.length)), (10, .sl false 16 p.length (esC p)), (6, .bp (mn + 1) 0), (3, .bp mn 0), (1, .flat (.int .i64 q.2.2.1))], q.2.2.2.1, q.2.2.2.2⟩) (fun q => p.length - q.1)
    (fun q => q.1 ≤ p.length ∧ inR q.2.2.1 ∧ climbL q.2.1 q.2.2.1 q.1 (p.drop q.1) = climbE x a p ∧ q.2.2.2.1 mn = some (bv q.2.1.1) ∧ q.2.2.2.1 (mn + 1) = some (bv z16.1) ∧ (∀ b, M b ≠ none → q.2.2.2.1 b = M b) ∧ mn + 1 + 1 ≤ q.2.2.2.2)
    (0, x, a, upd (upd M mn (some (bv x.1))) (mn + 1) (some (bv z16.1)), mn + 1 + 1) ⟨by simp only; omega, ha, rfl, by simp only; rw [upd_ne _ _ (by omega), upd_same], upd_same _ _ _, updL hM (updL hM (fun _ _ => rfl) (by omega)) (by omega), by simp only; omega⟩ (sbs (by simp (maxSteps := 2000000) only [go_sem, seval, reduceCtorEq, List.append_eq]) rfl rfl) ?_
  rintro ⟨i, y, b, m, n⟩ ⟨hi, hb, hc, h2, h1, hk, hn⟩
  simp only at hi hb hc h2 h1 hk hn ⊢
  by_cases h : i < p.length
  · have f1 : ((i : Int) < p.length) = True := eq_true (by omega)
    have g1 : (i < p.length) = True := eq_true h
    have v1 := wi1 (n := i) (by omega)
    have g2 := esC_get p i h
    have u1 : ∀ (A : Mem) z, upd A n z mn = A mn := fun A z => upd_ne _ _ (by omega)
    have hd := drop_get p i z16 h
    obtain ⟨t1, t2⟩ := tdiv2 b
    have hb2 : inR (b / 2) := by unfold inR at hb ⊢; omega
    by_cases ho : b % 2 = 1
    · have g3 : (b.tmod 2 = 0) = False := eq_false (by split at t1 <;> omega)
      rw [hd, climbL, if_pos ho] at hc
      repeat' (first | (with_reducible first | refine pa ?_ | refine pb ?_ | refine pc ?_ | refine nxt_n ?_ | refine nxt_e ?_ | refine nxt_r ?_ | refine blk_n ?_ | refine blk_r ?_ | refine blk_hit ?_ | refine blk_miss (by rfl) ?_ | refine pd ?_ | refine pe ?_ | refine pf ?_ | refine pg ?_ | apply And.intro) | (refine hK _ ?_; clear hK K hΘ Θ) | (with_reducible first | refine cw1 ?_ | refine cw2 ?_ | exact cw3 | exact cw4) | ((with_reducible first | refine cw5 (fun gg => ?_) | refine cw6 (fun gg => ?_) | refine cw7 (fun gg => ?_)); try simp only [gg]) | refine cs1 hG rfl ?_ ?_ | refine cs2 hG rfl ?_ ?_ | ((first | refine kg (Rhalf_sp b hb _ _) rfl hΘ ?_ | refine kg (RUp_sp (p.getD i z16) y (i + 1 : Nat) (b / 2) (by omega) (by have := hb2.2; omega) _ _) rfl hΘ ?_ | refine rga hG (by kernel_rfl) (fun Θ K hΘ hK => ?_) | refine rgb hG (by kernel_rfl) (fun Θ K hΘ hK => ?_)); simp (maxSteps := 2000000) only [go_sem, seval, reduceCtorEq, f1, g1, v1, g2, u1, h2, h1, g3]) | ((first | refine Post.splitN (fun gg => ?_) (fun gg => ?_) | refine Post.split (fun gg => ?_) (fun gg => ?_)) <;> simp (maxSteps := 2000000) only [go_sem, seval, reduceCtorEq, gg, f1, g1, v1, g2, u1, h2, h1, g3]) | (refine finR (by simp only [go_sem, seval, reduceCtorEq, f1, g1, v1, g2, u1, h2, h1, g3]; exact rfl) ?_; simp only [go_sem, seval, reduceCtorEq, f1, g1, v1, g2, u1, h2, h1, g3]) | refine updL hM ?_ (by omega) | (with_reducible exact fun _ _ => rfl))
      all_goals (first | omega | (simp only [decide_eq_true_eq, decide_eq_false_iff_not] at *; omega) | (simp only [List.length_append, List.length_cons, List.length_nil] <;> omega) | exact one_bv _ | exact one_sv _ | skip)
      refine ⟨(i + 1, upE (p.getD i z16) y (i + 1 : Nat) (b / 2), b / 2, upd (upd m n (some (bv (p.getD i z16).1))) mn (some (bv (upE (p.getD i z16) y (i + 1 : Nat) (b / 2)).1)), n + 1), ⟨by simp only; omega, hb2, hc, upd_same _ _ _, by (simp only; repeat rw [upd_ne _ _ (by omega)]); exact h1, fun c hc => by
        have hcm : c < mn := Nat.lt_of_not_le fun q => hc (hM c q)
        simp only; repeat rw [upd_ne _ _ (by omega)]
        exact hk c hc, by simp only; omega⟩, by simp only; omega, (sbs (by simp (maxSteps := 2000000) only [go_sem, seval, reduceCtorEq, List.append_eq]) rfl rfl)⟩
    · have g3 : (b.tmod 2 = 0) = True := eq_true (by split at t1 <;> omega)
      rw [hd, climbL, if_neg ho] at hc
      repeat' (first | (with_reducible first | refine pa ?_ | refine pb ?_ | refine pc ?_ | refine nxt_n ?_ | refine nxt_e ?_ | refine nxt_r ?_ | refine blk_n ?_ | refine blk_r ?_ | refine blk_hit ?_ | refine blk_miss (by rfl) ?_ | refine pd ?_ | refine pe ?_ | refine pf ?_ | refine pg ?_ | apply And.intro) | (refine hK _ ?_; clear hK K hΘ Θ) | (with_reducible first | refine cw1 ?_ | refine cw2 ?_ | exact cw3 | exact cw4) | ((with_reducible first | refine cw5 (fun gg => ?_) | refine cw6 (fun gg => ?_) | refine cw7 (fun gg => ?_)); try simp only [gg]) | refine cs1 hG rfl ?_ ?_ | refine cs2 hG rfl ?_ ?_ | ((first | refine kg (Rhalf_sp b hb _ _) rfl hΘ ?_ | refine kg (RUp_sp y (p.getD i z16) (i + 1 : Nat) (b / 2) (by omega) (by have := hb2.2; omega) _ _) rfl hΘ ?_ | refine rga hG (by kernel_rfl) (fun Θ K hΘ hK => ?_) | refine rgb hG (by kernel_rfl) (fun Θ K hΘ hK => ?_)); simp (maxSteps := 2000000) only [go_sem, seval, reduceCtorEq, f1, g1, v1, g2, u1, h2, h1, g3]) | ((first | refine Post.splitN (fun gg => ?_) (fun gg => ?_) | refine Post.split (fun gg => ?_) (fun gg => ?_)) <;> simp (maxSteps := 2000000) only [go_sem, seval, reduceCtorEq, gg, f1, g1, v1, g2, u1, h2, h1, g3]) | (refine finR (by simp only [go_sem, seval, reduceCtorEq, f1, g1, v1, g2, u1, h2, h1, g3]; exact rfl) ?_; simp only [go_sem, seval, reduceCtorEq, f1, g1, v1, g2, u1, h2, h1, g3]) | refine updL hM ?_ (by omega) | (with_reducible exact fun _ _ => rfl))
      all_goals (first | omega | (simp only [decide_eq_true_eq, decide_eq_false_iff_not] at *; omega) | (simp only [List.length_append, List.length_cons, List.length_nil] <;> omega) | exact one_bv _ | exact one_sv _ | skip)
      refine ⟨(i + 1, upE y (p.getD i z16) (i + 1 : Nat) (b / 2), b / 2, upd (upd m n (some (bv (p.getD i z16).1))) mn (some (bv (upE y (p.getD i z16) (i + 1 : Nat) (b / 2)).1)), n + 1), ⟨by simp only; omega, hb2, hc, upd_same _ _ _, by (simp only; repeat rw [upd_ne _ _ (by omega)]); exact h1, fun c hc => by
        have hcm : c < mn := Nat.lt_of_not_le fun q => hc (hM c q)
        simp only; repeat rw [upd_ne _ _ (by omega)]
        exact hk c hc, by simp only; omega⟩, by simp only; omega, (sbs (by simp (maxSteps := 2000000) only [go_sem, seval, reduceCtorEq, List.append_eq]) rfl rfl)⟩
  · have f1 : ((i : Int) < p.length) = False := eq_false (by omega)
    have e : i = p.length := by omega
    subst e
    rw [List.drop_length, climbL] at hc
    subst hc
    repeat' (first | (with_reducible first | refine pa ?_ | refine pb ?_ | refine pc ?_ | refine nxt_n ?_ | refine nxt_e ?_ | refine nxt_r ?_ | refine blk_n ?_ | refine blk_r ?_ | refine blk_hit ?_ | refine blk_miss (by rfl) ?_ | refine pd ?_ | refine pe ?_ | refine pf ?_ | refine pg ?_ | apply And.intro) | (refine hK _ ?_; clear hK K hΘ Θ) | (with_reducible first | refine cw1 ?_ | refine cw2 ?_ | exact cw3 | exact cw4) | ((with_reducible first | refine cw5 (fun gg => ?_) | refine cw6 (fun gg => ?_) | refine cw7 (fun gg => ?_)); try simp only [gg]) | refine cs1 hG rfl ?_ ?_ | refine cs2 hG rfl ?_ ?_ | ((first | refine rga hG (by kernel_rfl) (fun Θ K hΘ hK => ?_) | refine rgb hG (by kernel_rfl) (fun Θ K hΘ hK => ?_)); simp (maxSteps := 2000000) only [go_sem, seval, reduceCtorEq, f1, h2, h1]) | ((first | refine Post.splitN (fun gg => ?_) (fun gg => ?_) | refine Post.split (fun gg => ?_) (fun gg => ?_)) <;> simp (maxSteps := 2000000) only [go_sem, seval, reduceCtorEq, gg, f1, h2, h1]) | (refine finR (by simp only [go_sem, seval, reduceCtorEq, f1, h2, h1]; exact rfl) ?_; simp only [go_sem, seval, reduceCtorEq, f1, h2, h1]) | refine updL hM ?_ (by omega) | (with_reducible exact fun _ _ => rfl))
    all_goals (first | omega | (simp only [decide_eq_true_eq, decide_eq_false_iff_not] at *; omega) | (simp only [List.length_append, List.length_cons, List.length_nil] <;> omega) | exact one_bv _ | exact one_sv _ | skip)
end Go.VL

set_option linter.unusedVariables false
set_option linter.unusedSimpArgs false
set_option maxRecDepth 100000
set_option maxHeartbeats 8000000
open Go.RowKit
namespace Go.VL
open Go.Proofs
theorem Wide_bad (h : Int) (hb : h < 1 ∨ 8 < h) : Rt 19 [.flat (.int .i64 h)] (.flat (.int .i64 0)) := by
  intro M mn
  refine fnL (C := kc 19 [] []) (rs := [.tmp 2]) envOk Tryd.func19 (by kernel_rfl) rfl rfl rfl rfl rfl rfl (Low.flat _) ?_
  intro E hG hM
  by_cases h1 : h < 1
  · have f1 := eq_true h1
    repeat' (first | (with_reducible first | refine pa ?_ | refine pb ?_ | refine pc ?_ | refine nxt_n ?_ | refine nxt_e ?_ | refine nxt_r ?_ | refine blk_n ?_ | refine blk_r ?_ | refine blk_hit ?_ | refine blk_miss (by rfl) ?_ | refine pd ?_ | refine pe ?_ | refine pf ?_ | refine pg ?_ | apply And.intro) | (refine hK _ ?_; clear hK K hΘ Θ) | (with_reducible first | refine cw1 ?_ | refine cw2 ?_ | exact cw3 | exact cw4) | ((with_reducible first | refine cw5 (fun gg => ?_) | refine cw6 (fun gg => ?_) | refine cw7 (fun gg => ?_)); try simp only [gg]) | refine cs1 hG rfl ?_ ?_ | refine cs2 hG rfl ?_ ?_ | ((first | refine rga hG (by kernel_rfl) (fun Θ K hΘ hK => ?_) | refine rgb hG (by kernel_rfl) (fun Θ K hΘ hK => ?_)); simp (maxSteps := 2000000) only [go_sem, seval, reduceCtorEq, f1]) | ((first | refine Post.splitN (fun gg => ?_) (fun gg => ?_) | refine Post.split (fun gg => ?_) (fun gg => ?_)) <;> simp (maxSteps := 2000000) only [go_sem, seval, reduceCtorEq, gg, f1]) | (refine finR (by simp only [go_sem, seval, reduceCtorEq, f1]; exact rfl) ?_; simp only [go_sem, seval, reduceCtorEq, f1]) | refine updL hM ?_ (by omega) | (with_reducible exact fun _ _ => rfl))
    all_goals (first | omega | (simp only [decide_eq_true_eq, decide_eq_false_iff_not] at *; omega) | (simp only [List.length_append, List.length_cons, List.length_nil] <;> omega) | exact one_bv _ | exact one_sv _ | skip)
  · have f1 := eq_false h1
    have f2 : (h > 8) = True := eq_true (by omega)
    repeat' (first | (with_reducible first | refine pa ?_ | refine pb ?_ | refine pc ?_ | refine nxt_n ?_ | refine nxt_e ?_ | refine nxt_r ?_ | refine blk_n ?_ | refine blk_r ?_ | refine blk_hit ?_ | refine blk_miss (by rfl) ?_ | refine pd ?_ | refine pe ?_ | refine pf ?_ | refine pg ?_ | apply And.intro) | (refine hK _ ?_; clear hK K hΘ Θ) | (with_reducible first | refine cw1 ?_ | refine cw2 ?_ | exact cw3 | exact cw4) | ((with_reducible first | refine cw5 (fun gg => ?_) | refine cw6 (fun gg => ?_) | refine cw7 (fun gg => ?_)); try simp only [gg]) | refine cs1 hG rfl ?_ ?_ | refine cs2 hG rfl ?_ ?_ | ((first | refine rga hG (by kernel_rfl) (fun Θ K hΘ hK => ?_) | refine rgb hG (by kernel_rfl) (fun Θ K hΘ hK => ?_)); simp (maxSteps := 2000000) only [go_sem, seval, reduceCtorEq, f1, f2]) | ((first | refine Post.splitN (fun gg => ?_) (fun gg => ?_) | refine Post.split (fun gg => ?_) (fun gg => ?_)) <;> simp (maxSteps := 2000000) only [go_sem, seval, reduceCtorEq, gg, f1, f2]) | (refine finR (by simp only [go_sem, seval, reduceCtorEq, f1, f2]; exact rfl) ?_; simp only [go_sem, seval, reduceCtorEq, f1, f2]) | refine updL hM ?_ (by omega) | (with_reducible exact fun _ _ => rfl))
    all_goals (first | omega | (simp only [decide_eq_true_eq, decide_eq_false_iff_not] at *; omega) | (simp only [List.length_append, List.length_cons, List.length_nil] <;> omega) | exact one_bv _ | exact one_sv _ | skip)
theorem Wide_sp (h : Nat) (h1 : 1 ≤ h) (h8 : h ≤ 8) : Rt 19 [.flat (.int .i64 h)] (.flat (.int .i64 (2 ^ h : Nat))) := by
  have f1 : ((h : Int) < 1) = False := eq_false (by omega)
  have f2 : ((h : Int) > 8) = False := eq_false (by omega)
  intro M mn
  refine fnL (C := kc 19 [] []) (rs := [.tmp 2]) envOk Tryd.func19 (by kernel_rfl) rfl rfl rfl rfl rfl rfl (Low.flat _) ?_
  intro E hG hM
  repeat' (first | (with_reducible first | refine pa ?_ | refine pb ?_ | refine pc ?_ | refine nxt_n ?_ | refine nxt_e ?_ | refine nxt_r ?_ | refine blk_n ?_ | refine blk_r ?_ | refine blk_hit ?_ | refine blk_miss (by rfl) ?_ | refine pd ?_ | refine pe ?_ | refine pf ?_ | refine pg ?_ | apply And.intro) | (refine hK _ ?_; clear hK K hΘ Θ) | (with_reducible first | refine cw1 ?_ | refine cw2 ?_ | exact cw3 | exact cw4) | ((with_reducible first | refine cw5 (fun gg => ?_) | refine cw6 (fun gg => ?_) | refine cw7 (fun gg => ?_)); try simp only [gg]) | refine cs1 hG rfl ?_ ?_ | refine cs2 hG rfl ?_ ?_ | ((first | refine rga hG (by kernel_rfl) (fun Θ K hΘ hK => ?_) | refine rgb hG (by kernel_rfl) (fun Θ K hΘ hK => ?_)); simp (maxSteps := 2000000) only [go_sem, seval, reduceCtorEq, f1, f2]) | ((first | refine Post.splitN (fun gg => ?_) (fun gg => ?_) | refine Post.split (fun gg => ?_) (fun gg => ?_)) <;> simp (maxSteps := 2000000) only [go_sem, seval, reduceCtorEq, gg, f1, f2]) | (refine finR (by simp only [go_sem, seval, reduceCtorEq, f1, f2]; exact rfl) ?_; simp only [go_sem, seval, reduceCtorEq, f1, f2]) | refine updL hM ?_ (by omega) | (with_reducible exact fun _ _ => rfl))
  all_goals (first | omega | (simp only [decide_eq_true_eq, decide_eq_false_iff_not] at *; omega) | (simp only [List.length_append, List.length_cons, List.length_nil] <;> omega) | exact one_bv _ | exact one_sv _ | skip)
  refine WC.loopA (fun i : Nat => ⟨[(4, .flat (.int .i64 i)), (3, .flat (.int .i64 (2 ^ i : Nat))), (0, .flat (.int .i64 h))], M, mn⟩) (fun i => h - i) (fun i => i ≤ h) 0 (by omega) (sbs (by simp (maxSteps := 2000000) only [go_sem, seval, reduceCtorEq, List.append_eq, Nat.pow_zero]) rfl rfl) ?_
  intro i hi
  have hpi := pow_le8 i (by omega)
  by_cases hih : i < h
  · have g1 : ((i : Int) < (h : Int)) = True := eq_true (by omega)
    have v1 := wi1 (n := i) (by omega)
    have hp2 := pow_le8 (i + 1) (by omega)
    have e2 : 2 ^ (i + 1) = 2 * 2 ^ i := by rw [Nat.pow_succ]; omega
    have v2 : IntKind.i64.wrap (2 * ((2 ^ i : Nat) : Int)) = ((2 ^ (i + 1) : Nat) : Int) := by rw [wi (by omega) (by omega)]; omega
    repeat' (first | (with_reducible first | refine pa ?_ | refine pb ?_ | refine pc ?_ | refine nxt_n ?_ | refine nxt_e ?_ | refine nxt_r ?_ | refine blk_n ?_ | refine blk_r ?_ | refine blk_hit ?_ | refine blk_miss (by rfl) ?_ | refine pd ?_ | refine pe ?_ | refine pf ?_ | refine pg ?_ | apply And.intro) | (refine hK _ ?_; clear hK K hΘ Θ) | (with_reducible first | refine cw1 ?_ | refine cw2 ?_ | exact cw3 | exact cw4) | ((with_reducible first | refine cw5 (fun gg => ?_) | refine cw6 (fun gg => ?_) | refine cw7 (fun gg => ?_)); try simp only [gg]) | refine cs1 hG rfl ?_ ?_ | refine cs2 hG rfl ?_ ?_ | ((first | refine rga hG (by kernel_rfl) (fun Θ K hΘ hK => ?_) | refine rgb hG (by kernel_rfl) (fun Θ K hΘ hK => ?_)); simp (maxSteps := 2000000) only [go_sem, seval, reduceCtorEq, g1, v1, v2]) | ((first | refine Post.splitN (fun gg => ?_) (fun gg => ?_) | refine Post.split (fun gg => ?_) (fun gg => ?_)) <;> simp (maxSteps := 2000000) only [go_sem, seval, reduceCtorEq, gg, g1, v1, v2]) | (refine finR (by simp only [go_sem, seval, reduceCtorEq, g1, v1, v2]; exact rfl) ?_; simp only [go_sem, seval, reduceCtorEq, g1, v1, v2]) | refine updL hM ?_ (by omega) | (with_reducible exact fun _ _ => rfl))
    all_goals (first | omega | (simp only [decide_eq_true_eq, decide_eq_false_iff_not] at *; omega) | (simp only [List.length_append, List.length_cons, List.length_nil] <;> omega) | exact one_bv _ | exact one_sv _ | skip)
    exact ⟨i + 1, by omega, by omega, (sbs (by simp (maxSteps := 2000000) only [go_sem, seval, reduceCtorEq, List.append_eq]) rfl rfl)⟩
  · have g1 : ((i : Int) < (h : Int)) = False := eq_false (by omega)
    have e : i = h := by omega
    subst e
    repeat' (first | (with_reducible first | refine pa ?_ | refine pb ?_ | refine pc ?_ | refine nxt_n ?_ | refine nxt_e ?_ | refine nxt_r ?_ | refine blk_n ?_ | refine blk_r ?_ | refine blk_hit ?_ | refine blk_miss (by rfl) ?_ | refine pd ?_ | refine pe ?_ | refine pf ?_ | refine pg ?_ | apply And.intro) | (refine hK _ ?_; clear hK K hΘ Θ) | (with_reducible first | refine cw1 ?_ | refine cw2 ?_ | exact cw3 | exact cw4) | ((with_reducible first | refine cw5 (fun gg => ?_) | refine cw6 (fun gg => ?_) | refine cw7 (fun gg => ?_)); try simp only [gg]) | refine cs1 hG rfl ?_ ?_ | refine cs2 hG rfl ?_ ?_ | ((first | refine rga hG (by kernel_rfl) (fun Θ K hΘ hK => ?_) | refine rgb hG (by kernel_rfl) (fun Θ K hΘ hK => ?_)); simp (maxSteps := 2000000) only [go_sem, seval, reduceCtorEq, g1]) | ((first | refine Post.splitN (fun gg => ?_) (fun gg => ?_) | refine Post.split (fun gg => ?_) (fun gg => ?_)) <;> simp (maxSteps := 2000000) only [go_sem, seval, reduceCtorEq, gg, g1]) | (refine finR (by simp only [go_sem, seval, reduceCtorEq, g1]; exact rfl) ?_; simp only [go_sem, seval, reduceCtorEq, g1]) | refine updL hM ?_ (by omega) | (with_reducible exact fun _ _ => rfl))
    all_goals (first | omega | (simp only [decide_eq_true_eq, decide_eq_false_iff_not] at *; omega) | (simp only [List.length_append, List.length_cons, List.length_nil] <;> omega) | exact one_bv _ | exact one_sv _ | skip)
theorem R6Digest_sp (r : Id16) (ix : Int) (hix : inR ix) (t : List UInt8) (ht : t.length ≤ 10000000) : Rt 23 [.agg (bv r.1), .flat (.int .i64 ix), .flat (.string (bs t))] (.agg (bv (digE r ix t).1)) := by
  have htt := dig_tot r ix hix t ht
  have hr := r.2
  have m1 := max0i ix
  have a1 : ix.toNat < 9223372036854775808 := by have := hix.2; omega
  have hrt : (bv r.1).take 16 = bv r.1 := tk16 r
  have hst : cutE (shaSum [116, 101, 120, 116] [r.1, numB ix.toNat, t]) = digE r ix t := rfl
  intro M mn
  refine fnL (C := kc 16 [] []) (rs := [.cell 6 31]) envOk Tryd.func23 (by kernel_rfl) rfl rfl rfl rfl rfl rfl (lowAgg (FlatS.bv _)) ?_
  intro E hG hM
  repeat' (first | (with_reducible first | refine pa ?_ | refine pb ?_ | refine pc ?_ | refine nxt_n ?_ | refine nxt_e ?_ | refine nxt_r ?_ | refine blk_n ?_ | refine blk_r ?_ | refine blk_hit ?_ | refine blk_miss (by rfl) ?_ | refine pd ?_ | refine pe ?_ | refine pf ?_ | refine pg ?_ | apply And.intro) | (refine hK _ ?_; first | clear hK K hn0 hcl hΘ Θ | clear hK K hΘ Θ) | (with_reducible first | refine cw1 ?_ | refine cw2 ?_ | exact cw3 | exact cw4) | ((with_reducible first | refine cw5 (fun gg => ?_) | refine cw6 (fun gg => ?_) | refine cw7 (fun gg => ?_)); try simp only [gg]) | refine cs1 hG rfl ?_ ?_ | refine cs2 hG rfl ?_ ?_ | ((first | refine kf (fun M n => RNum_sp ix.toNat a1 M n) rfl (by decide) cl0 hΘ hcl hn0 ?_ | refine kf (fun M n => RSum_sp [116, 101, 120, 116] [r.1, numB ix.toNat, t] (by simp) (by omega) (by simp) M n) rfl (by decide) cl0 hΘ hcl hn0 ?_ | refine kf (fun M n => RCut_sp (shaSum [116, 101, 120, 116] [r.1, numB ix.toNat, t]) M n) rfl (by decide) cl0 hΘ hcl hn0 ?_ | refine rga hG (by kernel_rfl) (fun Θ K hΘ hK => ?_) | refine rgb hG (by kernel_rfl) (fun Θ K hΘ hK => ?_) | refine rgc defCl hG (by kernel_rfl) cl0 (by rfl) (by kernel_rfl) (fun Θ K hΘ hcl hn0 hK => ?_) | refine rgd defCl hG (by kernel_rfl) cl0 (by rfl) (by kernel_rfl) (fun Θ K hΘ hcl hn0 hK => ?_)); simp (maxSteps := 2000000) only [go_sem, seval, reduceCtorEq, hr, hrt, hst, m1]) | ((first | refine Post.splitN (fun gg => ?_) (fun gg => ?_) | refine PostB.splitN (fun gg => ?_) (fun gg => ?_) | refine Post.split (fun gg => ?_) (fun gg => ?_) | refine PostB.split (fun gg => ?_) (fun gg => ?_)) <;> simp (maxSteps := 2000000) only [go_sem, seval, reduceCtorEq, gg, hr, hrt, hst, m1]) | (refine finR (by simp only [go_sem, seval, reduceCtorEq, hr, hrt, hst, m1]; exact rfl) ?_; simp only [go_sem, seval, reduceCtorEq, hr, hrt, hst, m1]) | refine updL hM ?_ (by omega) | (with_reducible exact fun _ _ => rfl))
  all_goals (first | omega | (simp only [decide_eq_true_eq, decide_eq_false_iff_not] at *; omega) | (simp only [List.length_append, List.length_cons, List.length_nil] <;> omega) | exact one_bv _ | exact one_sv _ | skip)
theorem R6Verify_sp (n : Nd) (hn : inR n.height) (ix : Int) (hix : inR ix) (t : List UInt8) (ht : t.length ≤ 10000000) (g : List UInt8) (hgl : g.length ≤ 140737488351232) : Rt 26 [.agg n.c, .flat (.int .i64 ix), .flat (.string (bs t)), .flat (.string (bs g))] (.flat (.bool (verE n ix t g))) := by
  by_cases h3 : ix < 0
  · have f3 := eq_true h3
    rw [verE_no n ix t g (by omega)]
    intro M mn
    refine fnL (C := kc 75 [64] []) (rs := [.tmp 8]) envOk Tryd.func26 (by kernel_rfl) rfl rfl rfl rfl rfl rfl (Low.flat _) ?_
    intro E hG hM
    repeat' (first | (with_reducible first | refine pa ?_ | refine pb ?_ | refine pc ?_ | refine nxt_n ?_ | refine nxt_e ?_ | refine nxt_r ?_ | refine blk_n ?_ | refine blk_r ?_ | refine blk_hit ?_ | refine blk_miss (by rfl) ?_ | refine pd ?_ | refine pe ?_ | refine pf ?_ | refine pg ?_ | apply And.intro) | (refine hK _ ?_; first | clear hK K hn0 hcl hΘ Θ | clear hK K hΘ Θ) | (with_reducible first | refine cw1 ?_ | refine cw2 ?_ | exact cw3 | exact cw4) | ((with_reducible first | refine cw5 (fun gg => ?_) | refine cw6 (fun gg => ?_) | refine cw7 (fun gg => ?_)); try simp only [gg]) | refine cs1 hG rfl ?_ ?_ | refine cs2 hG rfl ?_ ?_ | ((first | refine rga hG (by kernel_rfl) (fun Θ K hΘ hK => ?_) | refine rgb hG (by kernel_rfl) (fun Θ K hΘ hK => ?_) | refine rgc defCl hG (by kernel_rfl) cl0 (by rfl) (by kernel_rfl) (fun Θ K hΘ hcl hn0 hK => ?_) | refine rgd defCl hG (by kernel_rfl) cl0 (by rfl) (by kernel_rfl) (fun Θ K hΘ hcl hn0 hK => ?_)); simp (maxSteps := 2000000) only [go_sem, seval, reduceCtorEq, List.append_eq, f3]) | ((first | refine Post.splitN (fun gg => ?_) (fun gg => ?_) | refine PostB.splitN (fun gg => ?_) (fun gg => ?_) | refine Post.split (fun gg => ?_) (fun gg => ?_) | refine PostB.split (fun gg => ?_) (fun gg => ?_)) <;> simp (maxSteps := 2000000) only [go_sem, seval, reduceCtorEq, List.append_eq, gg, f3]) | (refine finR (by simp only [go_sem, seval, reduceCtorEq, List.append_eq, f3]; exact rfl) ?_; simp only [go_sem, seval, reduceCtorEq, List.append_eq, f3]) | refine updL hM ?_ (by omega) | (with_reducible exact fun _ _ => rfl))
    all_goals (first | omega | (simp only [decide_eq_true_eq, decide_eq_false_iff_not] at *; omega) | (simp only [List.length_append, List.length_cons, List.length_nil] <;> omega) | exact one_bv _ | exact one_sv _ | skip)
  have f3 := eq_false h3
  by_cases h1 : n.height < 1 ∨ 8 < n.height
  · have f4 : (ix ≥ 0) = True := eq_true (by omega)
    rw [verE_no n ix t g (by omega)]
    intro M mn
    refine fnL (C := kc 75 [64] []) (rs := [.tmp 8]) envOk Tryd.func26 (by kernel_rfl) rfl rfl rfl rfl rfl rfl (Low.flat _) ?_
    intro E hG hM
    repeat' (first | (with_reducible first | refine pa ?_ | refine pb ?_ | refine pc ?_ | refine nxt_n ?_ | refine nxt_e ?_ | refine nxt_r ?_ | refine blk_n ?_ | refine blk_r ?_ | refine blk_hit ?_ | refine blk_miss (by rfl) ?_ | refine pd ?_ | refine pe ?_ | refine pf ?_ | refine pg ?_ | apply And.intro) | (refine hK _ ?_; first | clear hK K hn0 hcl hΘ Θ | clear hK K hΘ Θ) | (with_reducible first | refine cw1 ?_ | refine cw2 ?_ | exact cw3 | exact cw4) | ((with_reducible first | refine cw5 (fun gg => ?_) | refine cw6 (fun gg => ?_) | refine cw7 (fun gg => ?_)); try simp only [gg]) | refine cs1 hG rfl ?_ ?_ | refine cs2 hG rfl ?_ ?_ | ((first | refine kg (Wide_bad n.height h1 _ _) rfl hΘ ?_ | refine rga hG (by kernel_rfl) (fun Θ K hΘ hK => ?_) | refine rgb hG (by kernel_rfl) (fun Θ K hΘ hK => ?_) | refine rgc defCl hG (by kernel_rfl) cl0 (by rfl) (by kernel_rfl) (fun Θ K hΘ hcl hn0 hK => ?_) | refine rgd defCl hG (by kernel_rfl) cl0 (by rfl) (by kernel_rfl) (fun Θ K hΘ hcl hn0 hK => ?_)); simp (maxSteps := 2000000) only [go_sem, seval, reduceCtorEq, List.append_eq, f3, f4]) | ((first | refine Post.splitN (fun gg => ?_) (fun gg => ?_) | refine PostB.splitN (fun gg => ?_) (fun gg => ?_) | refine Post.split (fun gg => ?_) (fun gg => ?_) | refine PostB.split (fun gg => ?_) (fun gg => ?_)) <;> simp (maxSteps := 2000000) only [go_sem, seval, reduceCtorEq, List.append_eq, gg, f3, f4]) | (refine finR (by simp only [go_sem, seval, reduceCtorEq, List.append_eq, f3, f4]; exact rfl) ?_; simp only [go_sem, seval, reduceCtorEq, List.append_eq, f3, f4]) | refine updL hM ?_ (by omega) | (with_reducible exact fun _ _ => rfl))
    all_goals (first | omega | (simp only [decide_eq_true_eq, decide_eq_false_iff_not] at *; omega) | (simp only [List.length_append, List.length_cons, List.length_nil] <;> omega) | exact one_bv _ | exact one_sv _ | skip)
  obtain ⟨root, height⟩ := n
  obtain ⟨h, rfl⟩ : ∃ h : Nat, height = h := ⟨height.toNat, by simp only at h1; omega⟩
  simp only at h1
  have h8 : h ≤ 8 := by omega
  have h11 : 1 ≤ h := by omega
  have hp := pow_le8 h h8
  by_cases h4 : ix ≥ ((2 ^ h : Nat) : Int)
  · have f4 := eq_true h4
    rw [verE_no _ ix t g (by simp only [Int.toNat_natCast]; omega)]
    intro M mn
    refine fnL (C := kc 75 [64] []) (rs := [.tmp 8]) envOk Tryd.func26 (by kernel_rfl) rfl rfl rfl rfl rfl rfl (Low.flat _) ?_
    intro E hG hM
    repeat' (first | (with_reducible first | refine pa ?_ | refine pb ?_ | refine pc ?_ | refine nxt_n ?_ | refine nxt_e ?_ | refine nxt_r ?_ | refine blk_n ?_ | refine blk_r ?_ | refine blk_hit ?_ | refine blk_miss (by rfl) ?_ | refine pd ?_ | refine pe ?_ | refine pf ?_ | refine pg ?_ | apply And.intro) | (refine hK _ ?_; first | clear hK K hn0 hcl hΘ Θ | clear hK K hΘ Θ) | (with_reducible first | refine cw1 ?_ | refine cw2 ?_ | exact cw3 | exact cw4) | ((with_reducible first | refine cw5 (fun gg => ?_) | refine cw6 (fun gg => ?_) | refine cw7 (fun gg => ?_)); try simp only [gg]) | refine cs1 hG rfl ?_ ?_ | refine cs2 hG rfl ?_ ?_ | ((first | refine kg (Wide_sp h h11 h8 _ _) rfl hΘ ?_ | refine rga hG (by kernel_rfl) (fun Θ K hΘ hK => ?_) | refine rgb hG (by kernel_rfl) (fun Θ K hΘ hK => ?_) | refine rgc defCl hG (by kernel_rfl) cl0 (by rfl) (by kernel_rfl) (fun Θ K hΘ hcl hn0 hK => ?_) | refine rgd defCl hG (by kernel_rfl) cl0 (by rfl) (by kernel_rfl) (fun Θ K hΘ hcl hn0 hK => ?_)); simp (maxSteps := 2000000) only [go_sem, seval, reduceCtorEq, List.append_eq, f3, f4]) | ((first | refine Post.splitN (fun gg => ?_) (fun gg => ?_) | refine PostB.splitN (fun gg => ?_) (fun gg => ?_) | refine Post.split (fun gg => ?_) (fun gg => ?_) | refine PostB.split (fun gg => ?_) (fun gg => ?_)) <;> simp (maxSteps := 2000000) only [go_sem, seval, reduceCtorEq, List.append_eq, gg, f3, f4]) | (refine finR (by simp only [go_sem, seval, reduceCtorEq, List.append_eq, f3, f4]; exact rfl) ?_; simp only [go_sem, seval, reduceCtorEq, List.append_eq, f3, f4]) | refine updL hM ?_ (by omega) | (with_reducible exact fun _ _ => rfl))
    all_goals (first | omega | (simp only [decide_eq_true_eq, decide_eq_false_iff_not] at *; omega) | (simp only [List.length_append, List.length_cons, List.length_nil] <;> omega) | exact one_bv _ | exact one_sv _ | skip)
  have f4 := eq_false h4
  have w1 : IntKind.i64.wrap (16 * (h : Int)) = ((16 * h : Nat) : Int) := by rw [wi (by omega) (by omega)]; omega
  have w2 : IntKind.i64.wrap (560 + ((16 * h : Nat) : Int)) = ((560 + 16 * h : Nat) : Int) := by rw [wi (by omega) (by omega)]; omega
  by_cases h5 : g.length = 560 + 16 * h
  case neg =>
    have f5 : ((g.length : Int) = ((560 + 16 * h : Nat) : Int)) = False := eq_false (by omega)
    rw [verE_no _ ix t g (by simp only [Int.toNat_natCast]; omega)]
    intro M mn
    refine fnL (C := kc 75 [64] []) (rs := [.tmp 8]) envOk Tryd.func26 (by kernel_rfl) rfl rfl rfl rfl rfl rfl (Low.flat _) ?_
    intro E hG hM
    repeat' (first | (with_reducible first | refine pa ?_ | refine pb ?_ | refine pc ?_ | refine nxt_n ?_ | refine nxt_e ?_ | refine nxt_r ?_ | refine blk_n ?_ | refine blk_r ?_ | refine blk_hit ?_ | refine blk_miss (by rfl) ?_ | refine pd ?_ | refine pe ?_ | refine pf ?_ | refine pg ?_ | apply And.intro) | (refine hK _ ?_; first | clear hK K hn0 hcl hΘ Θ | clear hK K hΘ Θ) | (with_reducible first | refine cw1 ?_ | refine cw2 ?_ | exact cw3 | exact cw4) | ((with_reducible first | refine cw5 (fun gg => ?_) | refine cw6 (fun gg => ?_) | refine cw7 (fun gg => ?_)); try simp only [gg]) | refine cs1 hG rfl ?_ ?_ | refine cs2 hG rfl ?_ ?_ | ((first | refine kg (Wide_sp h h11 h8 _ _) rfl hΘ ?_ | refine rga hG (by kernel_rfl) (fun Θ K hΘ hK => ?_) | refine rgb hG (by kernel_rfl) (fun Θ K hΘ hK => ?_) | refine rgc defCl hG (by kernel_rfl) cl0 (by rfl) (by kernel_rfl) (fun Θ K hΘ hcl hn0 hK => ?_) | refine rgd defCl hG (by kernel_rfl) cl0 (by rfl) (by kernel_rfl) (fun Θ K hΘ hcl hn0 hK => ?_)); simp (maxSteps := 2000000) only [go_sem, seval, reduceCtorEq, List.append_eq, f3, f4, w1, w2, f5]) | ((first | refine Post.splitN (fun gg => ?_) (fun gg => ?_) | refine PostB.splitN (fun gg => ?_) (fun gg => ?_) | refine Post.split (fun gg => ?_) (fun gg => ?_) | refine PostB.split (fun gg => ?_) (fun gg => ?_)) <;> simp (maxSteps := 2000000) only [go_sem, seval, reduceCtorEq, List.append_eq, gg, f3, f4, w1, w2, f5]) | (refine finR (by simp only [go_sem, seval, reduceCtorEq, List.append_eq, f3, f4, w1, w2, f5]; exact rfl) ?_; simp only [go_sem, seval, reduceCtorEq, List.append_eq, f3, f4, w1, w2, f5]) | refine updL hM ?_ (by omega) | (with_reducible exact fun _ _ => rfl))
    all_goals (first | omega | (simp only [decide_eq_true_eq, decide_eq_false_iff_not] at *; omega) | (simp only [List.length_append, List.length_cons, List.length_nil] <;> omega) | exact one_bv _ | exact one_sv _ | skip)
  have f5 : ((g.length : Int) = ((560 + 16 * h : Nat) : Int)) = True := eq_true (by omega)
  have hv : verE ⟨root, h⟩ ix t g = decide (climbE (meetE (g.take 560) ix (digE root ix t)) ix (pathS g h) = root) := by
    unfold verE verOk
    rw [decide_eq_true (by simp only [Int.toNat_natCast]; omega)]
    simp
  rw [hv]
  have hml : (g.take 560).length = 560 := by rw [List.length_take]; omega
  have hM1 := R4Meet_sp (g.take 560) hml ix hix (digE root ix t)
  have hLx := (meetE (g.take 560) ix (digE root ix t)).2
  have hLt : (bv (meetE (g.take 560) ix (digE root ix t)).1).take 16 = bv (meetE (g.take 560) ix (digE root ix t)).1 := tk16 _
  have f6 : (560 ≤ g.length) = True := eq_true (by omega)
  generalize meetE (g.take 560) ix (digE root ix t) = L at *
  intro M mn
  refine fnL (C := kc 75 [64] []) (rs := [.tmp 8]) envOk Tryd.func26 (by kernel_rfl) rfl rfl rfl rfl rfl rfl (Low.flat _) ?_
  intro E hG hM
  repeat' (first | (with_reducible first | refine pa ?_ | refine pb ?_ | refine pc ?_ | refine nxt_n ?_ | refine nxt_e ?_ | refine nxt_r ?_ | refine blk_n ?_ | refine blk_r ?_ | refine blk_hit ?_ | refine blk_miss (by rfl) ?_ | refine pd ?_ | refine pe ?_ | refine pf ?_ | refine pg ?_ | apply And.intro) | (refine hK _ ?_; first | clear hK K hn0 hcl hΘ Θ | clear hK K hΘ Θ) | (with_reducible first | refine cw1 ?_ | refine cw2 ?_ | exact cw3 | exact cw4) | ((with_reducible first | refine cw5 (fun gg => ?_) | refine cw6 (fun gg => ?_) | refine cw7 (fun gg => ?_)); try simp only [gg]) | refine cs1 hG rfl ?_ ?_ | refine cs2 hG rfl ?_ ?_ | ((fail_if_success (with_reducible first | show WC _ _ _ (.region 3 _ _) _ _ | show WC _ _ _ (.seq (.region 3 _ _) _) _ _)); (first | refine kg (Wide_sp h h11 h8 _ _) rfl hΘ ?_ | refine rga hG (by kernel_rfl) (fun Θ K hΘ hK => ?_) | refine rgb hG (by kernel_rfl) (fun Θ K hΘ hK => ?_) | refine rgc defCl hG (by kernel_rfl) cl0 (by rfl) (by kernel_rfl) (fun Θ K hΘ hcl hn0 hK => ?_) | refine rgd defCl hG (by kernel_rfl) cl0 (by rfl) (by kernel_rfl) (fun Θ K hΘ hcl hn0 hK => ?_)); simp (maxSteps := 2000000) only [go_sem, seval, reduceCtorEq, List.append_eq, f3, f4, f5, w1, w2]) | ((first | refine Post.splitN (fun gg => ?_) (fun gg => ?_) | refine PostB.splitN (fun gg => ?_) (fun gg => ?_) | refine Post.split (fun gg => ?_) (fun gg => ?_) | refine PostB.split (fun gg => ?_) (fun gg => ?_)) <;> simp (maxSteps := 2000000) only [go_sem, seval, reduceCtorEq, List.append_eq, gg, f3, f4, f5, w1, w2]) | (refine finR (by simp only [go_sem, seval, reduceCtorEq, List.append_eq, f3, f4, f5, w1, w2]; exact rfl) ?_; simp only [go_sem, seval, reduceCtorEq, List.append_eq, f3, f4, f5, w1, w2]) | refine updL hM ?_ (by omega) | (with_reducible exact fun _ _ => rfl))
  all_goals (first | omega | (simp only [decide_eq_true_eq, decide_eq_false_iff_not] at *; omega) | (simp only [List.length_append, List.length_cons, List.length_nil] <;> omega) | exact one_bv _ | exact one_sv _ | skip)
  repeat' (first | (with_reducible first | refine pa ?_ | refine pb ?_ | refine pc ?_ | refine nxt_n ?_ | refine nxt_e ?_ | refine nxt_r ?_ | refine blk_n ?_ | refine blk_r ?_ | refine blk_hit ?_ | refine blk_miss (by rfl) ?_ | refine pd ?_ | refine pe ?_ | refine pf ?_ | refine pg ?_ | apply And.intro) | (refine hK _ ?_; first | clear hK K hn0 hcl hΘ Θ | clear hK K hΘ Θ) | (with_reducible first | refine cw1 ?_ | refine cw2 ?_ | exact cw3 | exact cw4) | ((with_reducible first | refine cw5 (fun gg => ?_) | refine cw6 (fun gg => ?_) | refine cw7 (fun gg => ?_)); try simp only [gg]) | refine cs1 hG rfl ?_ ?_ | refine cs2 hG rfl ?_ ?_ | ((fail_if_success (with_reducible first | show WC _ _ _ (.region 4 _ _) _ _ | show WC _ _ _ (.seq (.region 4 _ _) _) _ _)); (first | refine kf (fun M n => R6Digest_sp root ix hix t ht M n) rfl (by decide) (clW_le (by rfl)) hΘ hcl hn0 ?_ | refine kf (fun M n => hM1 M n) rfl (by decide) (clW_le (by rfl)) hΘ hcl hn0 ?_ | refine rga hG (by kernel_rfl) (fun Θ K hΘ hK => ?_) | refine rgb hG (by kernel_rfl) (fun Θ K hΘ hK => ?_) | refine rgc (clW [(4, 4)] defCl) hG (by kernel_rfl) (clW_le (by rfl)) (by rfl) (by kernel_rfl) (fun Θ K hΘ hcl hn0 hK => ?_) | refine rgd (clW [(4, 4)] defCl) hG (by kernel_rfl) (clW_le (by rfl)) (by rfl) (by kernel_rfl) (fun Θ K hΘ hcl hn0 hK => ?_)); simp (maxSteps := 2000000) only [go_sem, seval, reduceCtorEq, List.append_eq, f6]) | ((first | refine Post.splitN (fun gg => ?_) (fun gg => ?_) | refine PostB.splitN (fun gg => ?_) (fun gg => ?_) | refine Post.split (fun gg => ?_) (fun gg => ?_) | refine PostB.split (fun gg => ?_) (fun gg => ?_)) <;> simp (maxSteps := 2000000) only [go_sem, seval, reduceCtorEq, List.append_eq, gg, f6]) | (refine finR (by simp only [go_sem, seval, reduceCtorEq, List.append_eq, f6]; exact rfl) ?_; simp only [go_sem, seval, reduceCtorEq, List.append_eq, f6]) | refine updL hM ?_ (by omega) | (with_reducible exact fun _ _ => rfl))
  all_goals (first | omega | (simp only [decide_eq_true_eq, decide_eq_false_iff_not] at *; omega) | (simp only [List.length_append, List.length_cons, List.length_nil] <;> omega) | exact one_bv _ | exact one_sv _ | skip)
  repeat' (first | (with_reducible first | refine pa ?_ | refine pb ?_ | refine pc ?_ | refine nxt_n ?_ | refine nxt_e ?_ | refine nxt_r ?_ | refine blk_n ?_ | refine blk_r ?_ | refine blk_hit ?_ | refine blk_miss (by rfl) ?_ | refine pd ?_ | refine pe ?_ | refine pf ?_ | refine pg ?_ | apply And.intro) | (refine hK _ ?_; first | clear hK K hn0 hcl hΘ Θ | clear hK K hΘ Θ) | (with_reducible first | refine cw1 ?_ | refine cw2 ?_ | exact cw3 | exact cw4) | ((with_reducible first | refine cw5 (fun gg => ?_) | refine cw6 (fun gg => ?_) | refine cw7 (fun gg => ?_)); try simp only [gg]) | refine cs1 hG rfl ?_ ?_ | refine cs2 hG rfl ?_ ?_ | ((first | refine rga hG (by kernel_rfl) (fun Θ K hΘ hK => ?_) | refine rgb hG (by kernel_rfl) (fun Θ K hΘ hK => ?_) | refine rgc defCl hG (by kernel_rfl) cl0 (by rfl) (by kernel_rfl) (fun Θ K hΘ hcl hn0 hK => ?_) | refine rgd defCl hG (by kernel_rfl) cl0 (by rfl) (by kernel_rfl) (fun Θ K hΘ hcl hn0 hK => ?_)); simp (maxSteps := 2000000) only [go_sem, seval, reduceCtorEq, List.append_eq]) | ((first | refine Post.splitN (fun gg => ?_) (fun gg => ?_) | refine PostB.splitN (fun gg => ?_) (fun gg => ?_) | refine Post.split (fun gg => ?_) (fun gg => ?_) | refine PostB.split (fun gg => ?_) (fun gg => ?_)) <;> simp (maxSteps := 2000000) only [go_sem, seval, reduceCtorEq, List.append_eq, gg]) | (refine finR (by simp only [go_sem, seval, reduceCtorEq, List.append_eq]; exact rfl) ?_; simp only [go_sem, seval, reduceCtorEq, List.append_eq]) | refine updL hM ?_ (by omega) | (with_reducible exact fun _ _ => rfl))
  all_goals (first | omega | (simp only [decide_eq_true_eq, decide_eq_false_iff_not] at *; omega) | (simp only [List.length_append, List.length_cons, List.length_nil] <;> omega) | exact one_bv _ | exact one_sv _ | skip)
  have hm0 : ∀ b, M b ≠ none → upd (upd M mn (some (Nd.c ⟨root, h⟩))) (mn + 1) (some (bv L.1)) b = M b := updL (fun b hb => hM b (by omega)) (updL hM (fun _ _ => rfl) (by omega)) (by omega)
  refine WC.loopA (fun q : Nat × Mem × Nat => ⟨[(12, .flat (.int .i64 q.1)), (11, .sl true 16 q.1 (esC (pathS g q.1))), (9, .bp (mn + 1) 0), (4, .bp mn 0), (3, .flat (.string (bs g))), (1, .flat (.int .i64 ix))], q.2.1, q.2.2⟩) (fun q => h - q.1) (fun q => q.1 ≤ h ∧ (∀ b, M b ≠ none → q.2.1 b = M b) ∧ q.2.1 mn = some (Nd.c ⟨root, h⟩) ∧ q.2.1 (mn + 1) = some (bv L.1) ∧ mn + 2 ≤ q.2.2) (0, upd (upd M mn (some (Nd.c ⟨root, h⟩))) (mn + 1) (some (bv L.1)), mn + 2) ⟨by simp only; omega, hm0, by simp only; rw [upd_ne _ _ (by omega), upd_same], upd_same _ _ _, Nat.le_refl _⟩ (sbs (by simp (maxSteps := 2000000) only [go_sem, seval, reduceCtorEq, List.append_eq, pathS_0, esC_nil]) rfl rfl) ?_
  rintro ⟨i, m, nn⟩ ⟨hi, hkm, hb0, hb1, hnn⟩
  simp only at hi hkm hb0 hb1 hnn ⊢
  by_cases hih : i < h
  · have g1 : ((i : Int) < (h : Int)) = True := eq_true (by omega)
    have v2 := wi1 (n := i) (by omega)
    have v3 : IntKind.i64.wrap (16 * (i : Int)) = ((16 * i : Nat) : Int) := by rw [wi (by omega) (by omega)]; omega
    have v4 : IntKind.i64.wrap (560 + ((16 * i : Nat) : Int)) = ((560 + 16 * i : Nat) : Int) := by rw [wi (by omega) (by omega)]; omega
    have hpl := (partE g (35 + i)).2
    have hpk : (bv (partE g (35 + i)).1).take 16 = bv (partE g (35 + i)).1 := tk16 _
    have hA := esC_app (pathS g i) (partE g (35 + i))
    rw [← pathS_succ] at hA
    have hl := pathS_len g i
    repeat' (first | (with_reducible first | refine pa ?_ | refine pb ?_ | refine pc ?_ | refine nxt_n ?_ | refine nxt_e ?_ | refine nxt_r ?_ | refine blk_n ?_ | refine blk_r ?_ | refine blk_hit ?_ | refine blk_miss (by rfl) ?_ | refine pd ?_ | refine pe ?_ | refine pf ?_ | refine pg ?_ | apply And.intro) | (refine hK _ ?_; first | clear hK K hn0 hcl hΘ Θ | clear hK K hΘ Θ) | (with_reducible first | refine cw1 ?_ | refine cw2 ?_ | exact cw3 | exact cw4) | ((with_reducible first | refine cw5 (fun gg => ?_) | refine cw6 (fun gg => ?_) | refine cw7 (fun gg => ?_)); try simp only [gg]) | refine cs1 hG rfl ?_ ?_ | refine cs2 hG rfl ?_ ?_ | ((first | refine rga hG (by kernel_rfl) (fun Θ K hΘ hK => ?_) | refine rgb hG (by kernel_rfl) (fun Θ K hΘ hK => ?_) | refine rgc defCl hG (by kernel_rfl) cl0 (by rfl) (by kernel_rfl) (fun Θ K hΘ hcl hn0 hK => ?_) | refine rgd defCl hG (by kernel_rfl) cl0 (by rfl) (by kernel_rfl) (fun Θ K hΘ hcl hn0 hK => ?_)); simp (maxSteps := 2000000) only [go_sem, seval, reduceCtorEq, List.append_eq, g1, hb0]) | ((first | refine Post.splitN (fun gg => ?_) (fun gg => ?_) | refine PostB.splitN (fun gg => ?_) (fun gg => ?_) | refine Post.split (fun gg => ?_) (fun gg => ?_) | refine PostB.split (fun gg => ?_) (fun gg => ?_)) <;> simp (maxSteps := 2000000) only [go_sem, seval, reduceCtorEq, List.append_eq, gg, g1, hb0]) | (refine finR (by simp only [go_sem, seval, reduceCtorEq, List.append_eq, g1, hb0]; exact rfl) ?_; simp only [go_sem, seval, reduceCtorEq, List.append_eq, g1, hb0]) | refine updL hM ?_ (by omega) | (with_reducible exact fun _ _ => rfl))
    all_goals (first | omega | (simp only [decide_eq_true_eq, decide_eq_false_iff_not] at *; omega) | (simp only [List.length_append, List.length_cons, List.length_nil] <;> omega) | exact one_bv _ | exact one_sv _ | skip)
    refine WC.loopA (fun k : Nat => ⟨[(51, .flat (.int .i64 k)), (13, .bp nn 0), (12, .flat (.int .i64 i)), (11, .sl true 16 i (esC (pathS g i))), (9, .bp (mn + 1) 0), (4, .bp mn 0), (3, .flat (.string (bs g))), (1, .flat (.int .i64 ix))], upd m nn (some (bv (fillC (partE g (35 + i)).1 16 k))), nn + 1⟩) (fun k => 16 - k) (fun k => k ≤ 16) 0 (by omega) (sbs (by simp (maxSteps := 2000000) only [go_sem, seval, reduceCtorEq, List.append_eq]) rfl rfl) ?_
    intro k hk16
    by_cases hk : k < 16
    · have q2 : ((k : Int) < 16) = True := eq_true (by omega)
      have q3 : (k < 16) = True := eq_true hk
      have v6 := wi1 (n := k) (by omega)
      have v7 : IntKind.i64.wrap (((560 + 16 * i : Nat) : Int) + (k : Int)) = ((560 + 16 * i + k : Nat) : Int) := by rw [wi (by omega) (by omega)]; omega
      have q4 : (560 + 16 * i + k < g.length) = True := eq_true (by omega)
      have hfl := fillC_len (partE g (35 + i)).1 16 k (by omega) (by omega)
      have hget : g.getD (560 + 16 * i + k) 0 = (partE g (35 + i)).1.getD k 0 := by
        simp only [partE, List.getD_eq_getElem?_getD, List.getElem?_map, List.getElem?_range hk, Option.map_some, Option.getD_some]
        congr 2; omega
      have hfs := fillC_set (partE g (35 + i)).1 16 k (by omega) (by omega)
      repeat' (first | (with_reducible first | refine pa ?_ | refine pb ?_ | refine pc ?_ | refine nxt_n ?_ | refine nxt_e ?_ | refine nxt_r ?_ | refine blk_n ?_ | refine blk_r ?_ | refine blk_hit ?_ | refine blk_miss (by rfl) ?_ | refine pd ?_ | refine pe ?_ | refine pf ?_ | refine pg ?_ | apply And.intro) | (refine hK _ ?_; first | clear hK K hn0 hcl hΘ Θ | clear hK K hΘ Θ) | (with_reducible first | refine cw1 ?_ | refine cw2 ?_ | exact cw3 | exact cw4) | ((with_reducible first | refine cw5 (fun gg => ?_) | refine cw6 (fun gg => ?_) | refine cw7 (fun gg => ?_)); try simp only [gg]) | refine cs1 hG rfl ?_ ?_ | refine cs2 hG rfl ?_ ?_ | ((first | refine rga hG (by kernel_rfl) (fun Θ K hΘ hK => ?_) | refine rgb hG (by kernel_rfl) (fun Θ K hΘ hK => ?_) | refine rgc defCl hG (by kernel_rfl) cl0 (by rfl) (by kernel_rfl) (fun Θ K hΘ hcl hn0 hK => ?_) | refine rgd defCl hG (by kernel_rfl) cl0 (by rfl) (by kernel_rfl) (fun Θ K hΘ hcl hn0 hK => ?_)); simp (maxSteps := 2000000) only [go_sem, seval, reduceCtorEq, List.append_eq, q2, q3, v3, v4, v6, v7, q4, hfl, hget, hfs]) | ((first | refine Post.splitN (fun gg => ?_) (fun gg => ?_) | refine PostB.splitN (fun gg => ?_) (fun gg => ?_) | refine Post.split (fun gg => ?_) (fun gg => ?_) | refine PostB.split (fun gg => ?_) (fun gg => ?_)) <;> simp (maxSteps := 2000000) only [go_sem, seval, reduceCtorEq, List.append_eq, gg, q2, q3, v3, v4, v6, v7, q4, hfl, hget, hfs]) | (refine finR (by simp only [go_sem, seval, reduceCtorEq, List.append_eq, q2, q3, v3, v4, v6, v7, q4, hfl, hget, hfs]; exact rfl) ?_; simp only [go_sem, seval, reduceCtorEq, List.append_eq, q2, q3, v3, v4, v6, v7, q4, hfl, hget, hfs]) | refine updL hM ?_ (by omega) | (with_reducible exact fun _ _ => rfl))
      all_goals (first | omega | (simp only [decide_eq_true_eq, decide_eq_false_iff_not] at *; omega) | (simp only [List.length_append, List.length_cons, List.length_nil] <;> omega) | exact one_bv _ | exact one_sv _ | skip)
      exact ⟨k + 1, by omega, by omega, (sbs (by simp (maxSteps := 2000000) only [go_sem, seval, reduceCtorEq, List.append_eq]) rfl rfl)⟩
    · have q2 : ((k : Int) < 16) = False := eq_false (by omega)
      have e2 : k = 16 := by omega
      subst e2
      have hff : fillC (partE g (35 + i)).1 16 16 = (partE g (35 + i)).1 := by simp [fillC, List.take_of_length_le (Nat.le_of_eq hpl)]
      repeat' (first | (with_reducible first | refine pa ?_ | refine pb ?_ | refine pc ?_ | refine nxt_n ?_ | refine nxt_e ?_ | refine nxt_r ?_ | refine blk_n ?_ | refine blk_r ?_ | refine blk_hit ?_ | refine blk_miss (by rfl) ?_ | refine pd ?_ | refine pe ?_ | refine pf ?_ | refine pg ?_ | apply And.intro) | (refine hK _ ?_; first | clear hK K hn0 hcl hΘ Θ | clear hK K hΘ Θ) | (with_reducible first | refine cw1 ?_ | refine cw2 ?_ | exact cw3 | exact cw4) | ((with_reducible first | refine cw5 (fun gg => ?_) | refine cw6 (fun gg => ?_) | refine cw7 (fun gg => ?_)); try simp only [gg]) | refine cs1 hG rfl ?_ ?_ | refine cs2 hG rfl ?_ ?_ | ((first | refine rga hG (by kernel_rfl) (fun Θ K hΘ hK => ?_) | refine rgb hG (by kernel_rfl) (fun Θ K hΘ hK => ?_) | refine rgc defCl hG (by kernel_rfl) cl0 (by rfl) (by kernel_rfl) (fun Θ K hΘ hcl hn0 hK => ?_) | refine rgd defCl hG (by kernel_rfl) cl0 (by rfl) (by kernel_rfl) (fun Θ K hΘ hcl hn0 hK => ?_)); simp (maxSteps := 2000000) only [go_sem, seval, reduceCtorEq, List.append_eq, q2, hff, hpk, hA, hl, v2]) | ((first | refine Post.splitN (fun gg => ?_) (fun gg => ?_) | refine PostB.splitN (fun gg => ?_) (fun gg => ?_) | refine Post.split (fun gg => ?_) (fun gg => ?_) | refine PostB.split (fun gg => ?_) (fun gg => ?_)) <;> simp (maxSteps := 2000000) only [go_sem, seval, reduceCtorEq, List.append_eq, gg, q2, hff, hpk, hA, hl, v2]) | (refine finR (by simp only [go_sem, seval, reduceCtorEq, List.append_eq, q2, hff, hpk, hA, hl, v2]; exact rfl) ?_; simp only [go_sem, seval, reduceCtorEq, List.append_eq, q2, hff, hpk, hA, hl, v2]) | refine updL hM ?_ (by omega) | (with_reducible exact fun _ _ => rfl))
      all_goals (first | omega | (simp only [decide_eq_true_eq, decide_eq_false_iff_not] at *; omega) | (simp only [List.length_append, List.length_cons, List.length_nil] <;> omega) | exact one_bv _ | exact one_sv _ | skip)
      exact ⟨(i + 1, upd m nn (some (bv (partE g (35 + i)).1)), nn + 1), ⟨by simp only; omega, updL hM hkm (by omega), by simp only; rw [upd_ne _ _ (by omega)]; exact hb0, by simp only; rw [upd_ne _ _ (by omega)]; exact hb1, by simp only; omega⟩, by simp only; omega, (sbs (by simp (maxSteps := 2000000) only [go_sem, seval, reduceCtorEq, List.append_eq]) rfl rfl)⟩
  · have g1 : ((i : Int) < (h : Int)) = False := eq_false (by omega)
    have e : i = h := by omega
    subst e
    have hl := pathS_len g i
    have hC := RClimb_sp L ix hix (pathS g i) (by omega)
    rw [hl] at hC
    repeat' (first | (with_reducible first | refine pa ?_ | refine pb ?_ | refine pc ?_ | refine nxt_n ?_ | refine nxt_e ?_ | refine nxt_r ?_ | refine blk_n ?_ | refine blk_r ?_ | refine blk_hit ?_ | refine blk_miss (by rfl) ?_ | refine pd ?_ | refine pe ?_ | refine pf ?_ | refine pg ?_ | apply And.intro) | (refine hK _ ?_; first | clear hK K hn0 hcl hΘ Θ | clear hK K hΘ Θ) | (with_reducible first | refine cw1 ?_ | refine cw2 ?_ | exact cw3 | exact cw4) | ((with_reducible first | refine cw5 (fun gg => ?_) | refine cw6 (fun gg => ?_) | refine cw7 (fun gg => ?_)); try simp only [gg]) | refine cs1 hG rfl ?_ ?_ | refine cs2 hG rfl ?_ ?_ | ((first | refine kf (fun M n => hC M n) rfl (by decide) cl0 hΘ hcl hn0 ?_ | refine rga hG (by kernel_rfl) (fun Θ K hΘ hK => ?_) | refine rgb hG (by kernel_rfl) (fun Θ K hΘ hK => ?_) | refine rgc defCl hG (by kernel_rfl) cl0 (by rfl) (by kernel_rfl) (fun Θ K hΘ hcl hn0 hK => ?_) | refine rgd defCl hG (by kernel_rfl) cl0 (by rfl) (by kernel_rfl) (fun Θ K hΘ hcl hn0 hK => ?_)); simp (maxSteps := 2000000) only [go_sem, seval, reduceCtorEq, List.append_eq, g1, hl, hLx, hLt, hb0, hb1]) | ((first | refine Post.splitN (fun gg => ?_) (fun gg => ?_) | refine PostB.splitN (fun gg => ?_) (fun gg => ?_) | refine Post.split (fun gg => ?_) (fun gg => ?_) | refine PostB.split (fun gg => ?_) (fun gg => ?_)) <;> simp (maxSteps := 2000000) only [go_sem, seval, reduceCtorEq, List.append_eq, gg, g1, hl, hLx, hLt, hb0, hb1]) | (refine finR (by simp only [go_sem, seval, reduceCtorEq, List.append_eq, g1, hl, hLx, hLt, hb0, hb1]; exact rfl) ?_; simp only [go_sem, seval, reduceCtorEq, List.append_eq, g1, hl, hLx, hLt, hb0, hb1]) | refine updL hM ?_ (by omega) | (with_reducible exact fun _ _ => rfl))
    all_goals (first | omega | (simp only [decide_eq_true_eq, decide_eq_false_iff_not] at *; omega) | (simp only [List.length_append, List.length_cons, List.length_nil] <;> omega) | exact one_bv _ | exact one_sv _ | skip)
end Go.VL

set_option linter.unusedVariables false
set_option linter.unusedSimpArgs false
set_option maxRecDepth 100000
set_option maxHeartbeats 8000000
open Go.RowKit
namespace Go.VL
open Go.Proofs
theorem R16Word_sp (z q : Int) (hn : inR z) (hq : inR q) (h : Id32) : Rt 53 [.flat (.int .i64 z), .flat (.int .i64 q), .agg (bv h.1)] (.flat (.string (bs (wordB z q h)))) := by
  have n1 : z < 9223372036854775808 := by have := hn.2; omega
  have n2 : q < 9223372036854775808 := by have := hq.2; omega
  have ht := word_tot z q h hn hq
  have tb := take_bv32 h
  have hp := h.2
  have hL : Rt 91 [.sl false 1 4 (sv [[119, 111, 114, 100], numB z.toNat, numB q.toNat, h.1])] (.flat (.string (bs (wordB z q h)))) := RList_sp (wordP z q h) (by omega) (by omega)
  intro M mn
  refine fnL (C := kc 15 [] []) (rs := [.tmp 6]) envOk Tryd.func53 (by kernel_rfl) rfl rfl rfl rfl rfl rfl (Low.flat _) ?_
  intro E hG hM
  repeat' (first | (with_reducible first | refine pa ?_ | refine pb ?_ | refine pc ?_ | refine nxt_n ?_ | refine nxt_e ?_ | refine nxt_r ?_ | refine blk_n ?_ | refine blk_r ?_ | refine blk_hit ?_ | refine blk_miss (by rfl) ?_ | refine pd ?_ | refine pe ?_ | refine pf ?_ | refine pg ?_ | apply And.intro) | (refine hK _ ?_; first | clear hK K hn0 hcl hΘ Θ | clear hK K hΘ Θ) | (with_reducible first | refine cw1 ?_ | refine cw2 ?_ | exact cw3 | exact cw4) | ((with_reducible first | refine cw5 (fun gg => ?_) | refine cw6 (fun gg => ?_) | refine cw7 (fun gg => ?_)); try simp only [gg]) | refine cs1 hG rfl ?_ ?_ | refine cs2 hG rfl ?_ ?_ | ((first | refine kf (fun M n => R16num_sp z n1 M n) rfl (by decide) cl0 hΘ hcl hn0 ?_ | refine kf (fun M n => R16num_sp q n2 M n) rfl (by decide) cl0 hΘ hcl hn0 ?_ | refine kf (fun M n => hL M n) rfl (by decide) cl0 hΘ hcl hn0 ?_ | refine rga hG (by kernel_rfl) (fun Θ K hΘ hK => ?_) | refine rgb hG (by kernel_rfl) (fun Θ K hΘ hK => ?_) | refine rgc defCl hG (by kernel_rfl) cl0 (by rfl) (by kernel_rfl) (fun Θ K hΘ hcl hn0 hK => ?_) | refine rgd defCl hG (by kernel_rfl) cl0 (by rfl) (by kernel_rfl) (fun Θ K hΘ hcl hn0 hK => ?_)); simp (maxSteps := 2000000) only [go_sem, seval, reduceCtorEq, tb, hp]) | ((first | refine Post.splitN (fun gg => ?_) (fun gg => ?_) | refine PostB.splitN (fun gg => ?_) (fun gg => ?_) | refine Post.split (fun gg => ?_) (fun gg => ?_) | refine PostB.split (fun gg => ?_) (fun gg => ?_)) <;> simp (maxSteps := 2000000) only [go_sem, seval, reduceCtorEq, gg, tb, hp]) | (refine finR (by simp only [go_sem, seval, reduceCtorEq, tb, hp]; exact rfl) ?_; simp only [go_sem, seval, reduceCtorEq, tb, hp]) | refine updL hM ?_ (by omega) | (with_reducible exact fun _ _ => rfl))
  all_goals (first | omega | (simp only [decide_eq_true_eq, decide_eq_false_iff_not] at *; omega) | (simp only [List.length_append, List.length_cons, List.length_nil] <;> omega) | exact one_bv _ | exact one_sv _ | skip)
theorem R16Check_sp (a : Au) (ha : a.ok) (l : List Nd) (hok : ∀ n ∈ l, inR n.height) (hl : l.length ≤ 1000000) : Rt 35 [.agg a.c, .sl false 17 l.length (Nd.lC l)] (.flat (.bool (chkE a l))) := by
  obtain ⟨⟨a1, a2⟩, ⟨b1, b2⟩, hs⟩ := id ha
  by_cases h1 : 0 ≤ a.node
  case neg =>
    have f1 : (a.node ≥ 0) = False := eq_false (by omega)
    rw [chkE_no (fun q => h1 q.1)]
    intro M mn
    refine fnL (C := kc 38 [] []) (rs := [.tmp 4]) envOk Tryd.func35 (by kernel_rfl) rfl rfl rfl rfl rfl rfl (Low.flat _) ?_
    intro E hG hM
    repeat' (first | (with_reducible first | refine pa ?_ | refine pb ?_ | refine pc ?_ | refine nxt_n ?_ | refine nxt_e ?_ | refine nxt_r ?_ | refine blk_n ?_ | refine blk_r ?_ | refine blk_hit ?_ | refine blk_miss (by rfl) ?_ | refine pd ?_ | refine pe ?_ | refine pf ?_ | refine pg ?_ | apply And.intro) | (refine hK _ ?_; first | clear hK K hn0 hcl hΘ Θ | clear hK K hΘ Θ) | (with_reducible first | refine cw1 ?_ | refine cw2 ?_ | exact cw3 | exact cw4) | ((with_reducible first | refine cw5 (fun gg => ?_) | refine cw6 (fun gg => ?_) | refine cw7 (fun gg => ?_)); try simp only [gg]) | refine cs1 hG rfl ?_ ?_ | refine cs2 hG rfl ?_ ?_ | ((first | refine rga hG (by kernel_rfl) (fun Θ K hΘ hK => ?_) | refine rgb hG (by kernel_rfl) (fun Θ K hΘ hK => ?_) | refine rgc defCl hG (by kernel_rfl) cl0 (by rfl) (by kernel_rfl) (fun Θ K hΘ hcl hn0 hK => ?_) | refine rgd defCl hG (by kernel_rfl) cl0 (by rfl) (by kernel_rfl) (fun Θ K hΘ hcl hn0 hK => ?_)); simp (maxSteps := 2000000) only [go_sem, seval, reduceCtorEq, f1]) | ((first | refine Post.splitN (fun gg => ?_) (fun gg => ?_) | refine PostB.splitN (fun gg => ?_) (fun gg => ?_) | refine Post.split (fun gg => ?_) (fun gg => ?_) | refine PostB.split (fun gg => ?_) (fun gg => ?_)) <;> simp (maxSteps := 2000000) only [go_sem, seval, reduceCtorEq, gg, f1]) | (refine finR (by simp only [go_sem, seval, reduceCtorEq, f1]; exact rfl) ?_; simp only [go_sem, seval, reduceCtorEq, f1]) | refine updL hM ?_ (by omega) | (with_reducible exact fun _ _ => rfl))
    all_goals (first | omega | (simp only [decide_eq_true_eq, decide_eq_false_iff_not] at *; omega) | (simp only [List.length_append, List.length_cons, List.length_nil] <;> omega) | exact one_bv _ | exact one_sv _ | skip)
  have f1 : (a.node ≥ 0) = True := eq_true h1
  by_cases h2 : a.node < (l.length : Int)
  case neg =>
    have f2 := eq_false h2
    rw [chkE_no (fun q => h2 q.2.1)]
    intro M mn
    refine fnL (C := kc 38 [] []) (rs := [.tmp 4]) envOk Tryd.func35 (by kernel_rfl) rfl rfl rfl rfl rfl rfl (Low.flat _) ?_
    intro E hG hM
    repeat' (first | (with_reducible first | refine pa ?_ | refine pb ?_ | refine pc ?_ | refine nxt_n ?_ | refine nxt_e ?_ | refine nxt_r ?_ | refine blk_n ?_ | refine blk_r ?_ | refine blk_hit ?_ | refine blk_miss (by rfl) ?_ | refine pd ?_ | refine pe ?_ | refine pf ?_ | refine pg ?_ | apply And.intro) | (refine hK _ ?_; first | clear hK K hn0 hcl hΘ Θ | clear hK K hΘ Θ) | (with_reducible first | refine cw1 ?_ | refine cw2 ?_ | exact cw3 | exact cw4) | ((with_reducible first | refine cw5 (fun gg => ?_) | refine cw6 (fun gg => ?_) | refine cw7 (fun gg => ?_)); try simp only [gg]) | refine cs1 hG rfl ?_ ?_ | refine cs2 hG rfl ?_ ?_ | ((first | refine rga hG (by kernel_rfl) (fun Θ K hΘ hK => ?_) | refine rgb hG (by kernel_rfl) (fun Θ K hΘ hK => ?_) | refine rgc defCl hG (by kernel_rfl) cl0 (by rfl) (by kernel_rfl) (fun Θ K hΘ hcl hn0 hK => ?_) | refine rgd defCl hG (by kernel_rfl) cl0 (by rfl) (by kernel_rfl) (fun Θ K hΘ hcl hn0 hK => ?_)); simp (maxSteps := 2000000) only [go_sem, seval, reduceCtorEq, f1, f2]) | ((first | refine Post.splitN (fun gg => ?_) (fun gg => ?_) | refine PostB.splitN (fun gg => ?_) (fun gg => ?_) | refine Post.split (fun gg => ?_) (fun gg => ?_) | refine PostB.split (fun gg => ?_) (fun gg => ?_)) <;> simp (maxSteps := 2000000) only [go_sem, seval, reduceCtorEq, gg, f1, f2]) | (refine finR (by simp only [go_sem, seval, reduceCtorEq, f1, f2]; exact rfl) ?_; simp only [go_sem, seval, reduceCtorEq, f1, f2]) | refine updL hM ?_ (by omega) | (with_reducible exact fun _ _ => rfl))
    all_goals (first | omega | (simp only [decide_eq_true_eq, decide_eq_false_iff_not] at *; omega) | (simp only [List.length_append, List.length_cons, List.length_nil] <;> omega) | exact one_bv _ | exact one_sv _ | skip)
  have f2 := eq_true h2
  by_cases h3 : 0 < a.seq
  case neg =>
    have f3 : (a.seq > 0) = False := eq_false (by omega)
    rw [chkE_no (fun q => h3 q.2.2)]
    intro M mn
    refine fnL (C := kc 38 [] []) (rs := [.tmp 4]) envOk Tryd.func35 (by kernel_rfl) rfl rfl rfl rfl rfl rfl (Low.flat _) ?_
    intro E hG hM
    repeat' (first | (with_reducible first | refine pa ?_ | refine pb ?_ | refine pc ?_ | refine nxt_n ?_ | refine nxt_e ?_ | refine nxt_r ?_ | refine blk_n ?_ | refine blk_r ?_ | refine blk_hit ?_ | refine blk_miss (by rfl) ?_ | refine pd ?_ | refine pe ?_ | refine pf ?_ | refine pg ?_ | apply And.intro) | (refine hK _ ?_; first | clear hK K hn0 hcl hΘ Θ | clear hK K hΘ Θ) | (with_reducible first | refine cw1 ?_ | refine cw2 ?_ | exact cw3 | exact cw4) | ((with_reducible first | refine cw5 (fun gg => ?_) | refine cw6 (fun gg => ?_) | refine cw7 (fun gg => ?_)); try simp only [gg]) | refine cs1 hG rfl ?_ ?_ | refine cs2 hG rfl ?_ ?_ | ((first | refine rga hG (by kernel_rfl) (fun Θ K hΘ hK => ?_) | refine rgb hG (by kernel_rfl) (fun Θ K hΘ hK => ?_) | refine rgc defCl hG (by kernel_rfl) cl0 (by rfl) (by kernel_rfl) (fun Θ K hΘ hcl hn0 hK => ?_) | refine rgd defCl hG (by kernel_rfl) cl0 (by rfl) (by kernel_rfl) (fun Θ K hΘ hcl hn0 hK => ?_)); simp (maxSteps := 2000000) only [go_sem, seval, reduceCtorEq, f1, f2, f3]) | ((first | refine Post.splitN (fun gg => ?_) (fun gg => ?_) | refine PostB.splitN (fun gg => ?_) (fun gg => ?_) | refine Post.split (fun gg => ?_) (fun gg => ?_) | refine PostB.split (fun gg => ?_) (fun gg => ?_)) <;> simp (maxSteps := 2000000) only [go_sem, seval, reduceCtorEq, gg, f1, f2, f3]) | (refine finR (by simp only [go_sem, seval, reduceCtorEq, f1, f2, f3]; exact rfl) ?_; simp only [go_sem, seval, reduceCtorEq, f1, f2, f3]) | refine updL hM ?_ (by omega) | (with_reducible exact fun _ _ => rfl))
    all_goals (first | omega | (simp only [decide_eq_true_eq, decide_eq_false_iff_not] at *; omega) | (simp only [List.length_append, List.length_cons, List.length_nil] <;> omega) | exact one_bv _ | exact one_sv _ | skip)
  have f3 : (a.seq > 0) = True := eq_true (by omega)
  rw [chkE_yes ⟨h1, h2, h3⟩]
  obtain ⟨node, seq, hash, sig⟩ := a
  simp only at *
  obtain ⟨k, rfl⟩ : ∃ k : Nat, node = k := ⟨node.toNat, by omega⟩
  have hk : k < l.length := by omega
  have g1 : (k < l.length) = True := eq_true hk
  have hmem : l.getD k nd0 ∈ l := by rw [List.getD_eq_getElem?_getD, List.getElem?_eq_getElem hk]; exact List.getElem_mem _
  have hgt := Nd.l_get l nd0 k hk
  have hll := Nd.l_len l
  have ht1 := Nd.tk (l.getD k nd0)
  have g2 : (k * 17 + 17 ≤ l.length * 17) = True := eq_true (by omega)
  have v1 : IntKind.i64.wrap (seq - 1) = seq - 1 := wi (by omega) (by omega)
  have tb := take_bv32 hash
  have hwl := word_le k seq hash ⟨a1, a2⟩ ⟨b1, b2⟩
  have hW := R16Word_sp k seq ⟨a1, a2⟩ ⟨b1, b2⟩ hash
  have hV := R6Verify_sp (l.getD k nd0) (hok _ hmem) (seq - 1) (by unfold inR; omega) (wordB k seq hash) (by omega) sig (by omega)
  rw [Int.toNat_natCast]
  intro M mn
  refine fnL (C := kc 38 [] []) (rs := [.tmp 4]) envOk Tryd.func35 (by kernel_rfl) rfl rfl rfl rfl rfl rfl (Low.flat _) ?_
  intro E hG hM
  repeat' (first | (with_reducible first | refine pa ?_ | refine pb ?_ | refine pc ?_ | refine nxt_n ?_ | refine nxt_e ?_ | refine nxt_r ?_ | refine blk_n ?_ | refine blk_r ?_ | refine blk_hit ?_ | refine blk_miss (by rfl) ?_ | refine pd ?_ | refine pe ?_ | refine pf ?_ | refine pg ?_ | apply And.intro) | (refine hK _ ?_; first | clear hK K hn0 hcl hΘ Θ | clear hK K hΘ Θ) | (with_reducible first | refine cw1 ?_ | refine cw2 ?_ | exact cw3 | exact cw4) | ((with_reducible first | refine cw5 (fun gg => ?_) | refine cw6 (fun gg => ?_) | refine cw7 (fun gg => ?_)); try simp only [gg]) | refine cs1 hG rfl ?_ ?_ | refine cs2 hG rfl ?_ ?_ | ((first | refine kf (fun M n => hW M n) rfl (by decide) cl0 hΘ hcl hn0 ?_ | refine kf (fun M n => hV M n) rfl (by decide) cl0 hΘ hcl hn0 ?_ | refine rga hG (by kernel_rfl) (fun Θ K hΘ hK => ?_) | refine rgb hG (by kernel_rfl) (fun Θ K hΘ hK => ?_) | refine rgc defCl hG (by kernel_rfl) cl0 (by rfl) (by kernel_rfl) (fun Θ K hΘ hcl hn0 hK => ?_) | refine rgd defCl hG (by kernel_rfl) cl0 (by rfl) (by kernel_rfl) (fun Θ K hΘ hcl hn0 hK => ?_)); simp (maxSteps := 2000000) only [go_sem, seval, reduceCtorEq, f1, f2, f3, g1, g2, hgt, hll, ht1, v1, tb]) | ((first | refine Post.splitN (fun gg => ?_) (fun gg => ?_) | refine PostB.splitN (fun gg => ?_) (fun gg => ?_) | refine Post.split (fun gg => ?_) (fun gg => ?_) | refine PostB.split (fun gg => ?_) (fun gg => ?_)) <;> simp (maxSteps := 2000000) only [go_sem, seval, reduceCtorEq, gg, f1, f2, f3, g1, g2, hgt, hll, ht1, v1, tb]) | (refine finR (by simp only [go_sem, seval, reduceCtorEq, f1, f2, f3, g1, g2, hgt, hll, ht1, v1, tb]; exact rfl) ?_; simp only [go_sem, seval, reduceCtorEq, f1, f2, f3, g1, g2, hgt, hll, ht1, v1, tb]) | refine updL hM ?_ (by omega) | (with_reducible exact fun _ _ => rfl))
  all_goals (first | omega | (simp only [decide_eq_true_eq, decide_eq_false_iff_not] at *; omega) | (simp only [List.length_append, List.length_cons, List.length_nil] <;> omega) | exact one_bv _ | exact one_sv _ | skip)
end Go.VL

set_option linter.unusedVariables false
set_option linter.unusedSimpArgs false
set_option maxRecDepth 100000
set_option maxHeartbeats 8000000
open Go.RowKit
namespace Go.VL
open Go.Proofs
def sz16 (l : List Ent) : Nat := (l.map Ent.sz).sum
def g16 (l : List Ent) : Bool := decide (4096 < sz16 l) || decide (12 < l.length)
end Go.VL
