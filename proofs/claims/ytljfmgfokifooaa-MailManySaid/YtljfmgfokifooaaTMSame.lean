/- Part TMSame of the proof: made for this claim. -/
import Derived.Test.YtljfmgfokifooaaTMailR4
import Derived.Test.YtljfmgfokifooaaTSame
import Derived.Test.YtljfmgfokifooaaTLaw18
import Derived.Test.YtljfmgfokifooaaTMRd3
set_option linter.unusedVariables false
set_option linter.unusedSimpArgs false
set_option maxRecDepth 100000
set_option maxHeartbeats 8000000
open Go.RowKit
namespace Go.VL
open Go.Proofs
theorem Mail.eq_iff (a b : Mail) (h : a.auths = b.auths) : decide (a = b) = (decide (a.kind = b.kind) && decide (a.from_ = b.from_) && decide (a.to = b.to) && decide (a.seq = b.seq) && decide (a.prev = b.prev) && decide (a.mask = b.mask) && decide (a.pay = b.pay) && decide (a.other = b.other) && decide (a.auth = b.auth) && decide (a.ents = b.ents) && decide (a.proofs = b.proofs)) := by
  rw [Bool.eq_iff_iff]
  simp only [Bool.and_eq_true, decide_eq_true_eq]
  constructor
  · rintro rfl; simp
  · rintro ⟨⟨⟨⟨⟨⟨⟨⟨⟨⟨q1, q2⟩, q3⟩, q4⟩, q5⟩, q6⟩, q7⟩, q8⟩, q9⟩, q10⟩, q11⟩
    cases a; cases b
    simp only at *
    subst q1 q2 q3 q4 q5 q6 q7 q8 q9 q10 q11 h
    rfl
theorem R18Same_sp (a b : Mail) (ha : a.ok) (hb : b.ok) : Rt 18 [.agg a.ml.c, .agg b.ml.c] (.flat (.bool (decide (a = b)))) := by
  obtain ⟨_, _, _, _, _, _, _, fa0, ⟨ia, la⟩, ⟨ja, ka⟩, _, hpa⟩ := id ha
  obtain ⟨_, _, _, _, _, _, _, fb0, ⟨ib, lb⟩, ⟨jb, kb⟩, _, hpb⟩ := id hb
  have fa1 := Au.fit _ fa0
  have fb1 := Au.fit _ fb0
  by_cases hl : a.auths.length = b.auths.length
  case neg =>
    have f0 : ((a.auths.length : Int) = (b.auths.length : Int)) = False := eq_false (by omega)
    have hne : decide (a = b) = false := decide_eq_false fun e => hl (by rw [e])
    rw [hne]
    intro M mn
    refine fnL (C := kc 106 [] []) (rs := [.tmp 4]) envOk Try.func18 (by kernel_rfl) rfl rfl rfl rfl rfl rfl (Low.flat _) ?_
    intro E hG hM
    repeat' (first | (with_reducible first | refine pa ?_ | refine pb ?_ | refine pc ?_ | refine nxt_n ?_ | refine nxt_e ?_ | refine nxt_r ?_ | refine blk_n ?_ | refine blk_r ?_ | refine blk_hit ?_ | refine blk_miss (by rfl) ?_ | refine pd ?_ | refine pe ?_ | refine pf ?_ | refine pg ?_ | apply And.intro) | (refine hK _ ?_; first | clear hK K hn0 hcl hΘ Θ | clear hK K hΘ Θ) | (with_reducible first | refine cw1 ?_ | refine cw2 ?_ | exact cw3 | exact cw4) | ((with_reducible first | refine cw5 (fun gg => ?_) | refine cw6 (fun gg => ?_) | refine cw7 (fun gg => ?_)); try simp only [gg]) | refine cs1 hG rfl ?_ ?_ | refine cs2 hG rfl ?_ ?_ | ((first | refine rga hG (by kernel_rfl) (fun Θ K hΘ hK => ?_) | refine rgb hG (by kernel_rfl) (fun Θ K hΘ hK => ?_) | refine rgc defCl hG (by kernel_rfl) cl0 (by rfl) (by kernel_rfl) (fun Θ K hΘ hcl hn0 hK => ?_) | refine rgd defCl hG (by kernel_rfl) cl0 (by rfl) (by kernel_rfl) (fun Θ K hΘ hcl hn0 hK => ?_)); simp (maxSteps := 2000000) only [go_sem, seval, reduceCtorEq, List.append_eq, f0]) | ((first | refine Post.splitN (fun gg => ?_) (fun gg => ?_) | refine PostB.splitN (fun gg => ?_) (fun gg => ?_) | refine Post.split (fun gg => ?_) (fun gg => ?_) | refine PostB.split (fun gg => ?_) (fun gg => ?_)) <;> simp (maxSteps := 2000000) only [go_sem, seval, reduceCtorEq, List.append_eq, gg, f0]) | (refine finR (by simp only [go_sem, seval, reduceCtorEq, List.append_eq, f0]; exact rfl) ?_; simp only [go_sem, seval, reduceCtorEq, List.append_eq, f0]) | refine updL hM ?_ (by omega) | (with_reducible exact fun _ _ => rfl))
    all_goals (first | omega | (simp only [decide_eq_true_eq, decide_eq_false_iff_not] at *; omega) | (simp only [List.length_append, List.length_cons, List.length_nil] <;> omega) | exact one_bv _ | exact one_sv _ | skip)
  have f0 : ((a.auths.length : Int) = (b.auths.length : Int)) = True := eq_true (by omega)
  have hcE := R15Same_sp a.ents b.ents ja jb (by omega) (by omega)
  have hcP := RSame_sp a.proofs b.proofs (by omega) (by omega)
  intro M mn
  refine fnL (C := kc 106 [] []) (rs := [.tmp 4]) envOk Try.func18 (by kernel_rfl) rfl rfl rfl rfl rfl rfl (Low.flat _) ?_
  intro E hG hM
  have w1 : ∀ x y, upd (upd M mn x) (mn + 1) y mn = x := fun x y => by rw [upd_ne _ _ (by omega), upd_same]
  repeat' (first | (with_reducible first | refine pa ?_ | refine pb ?_ | refine pc ?_ | refine nxt_n ?_ | refine nxt_e ?_ | refine nxt_r ?_ | refine blk_n ?_ | refine blk_r ?_ | refine blk_hit ?_ | refine blk_miss (by rfl) ?_ | refine pd ?_ | refine pe ?_ | refine pf ?_ | refine pg ?_ | apply And.intro) | (refine hK _ ?_; first | clear hK K hn0 hcl hΘ Θ | clear hK K hΘ Θ) | (with_reducible first | refine cw1 ?_ | refine cw2 ?_ | exact cw3 | exact cw4) | ((with_reducible first | refine cw5 (fun gg => ?_) | refine cw6 (fun gg => ?_) | refine cw7 (fun gg => ?_)); try simp only [gg]) | refine cs1 hG rfl ?_ ?_ | refine cs2 hG rfl ?_ ?_ | ((first | refine rga hG (by kernel_rfl) (fun Θ K hΘ hK => ?_) | refine rgb hG (by kernel_rfl) (fun Θ K hΘ hK => ?_) | refine rgc defCl hG (by kernel_rfl) cl0 (by rfl) (by kernel_rfl) (fun Θ K hΘ hcl hn0 hK => ?_) | refine rgd defCl hG (by kernel_rfl) cl0 (by rfl) (by kernel_rfl) (fun Θ K hΘ hcl hn0 hK => ?_)); simp (maxSteps := 2000000) only [go_sem, seval, reduceCtorEq, List.append_eq, f0, w1]) | ((first | refine Post.splitN (fun gg => ?_) (fun gg => ?_) | refine PostB.splitN (fun gg => ?_) (fun gg => ?_) | refine Post.split (fun gg => ?_) (fun gg => ?_) | refine PostB.split (fun gg => ?_) (fun gg => ?_)) <;> simp (maxSteps := 2000000) only [go_sem, seval, reduceCtorEq, List.append_eq, gg, f0, w1]) | (refine finR (by simp only [go_sem, seval, reduceCtorEq, List.append_eq, f0, w1]; exact rfl) ?_; simp only [go_sem, seval, reduceCtorEq, List.append_eq, f0, w1]) | refine updL hM ?_ (by omega) | (with_reducible exact fun _ _ => rfl))
  all_goals (first | omega | (simp only [decide_eq_true_eq, decide_eq_false_iff_not] at *; omega) | (simp only [List.length_append, List.length_cons, List.length_nil] <;> omega) | exact one_bv _ | exact one_sv _ | skip)
  refine WC.loopA (fun i : Nat => ⟨[(16, .flat (.int .i64 i)), (15, .flat (.int .i64 a.auths.length)), (3, .bp (mn + 1) 0), (2, .bp mn 0)], upd (upd M mn (some a.ml.c)) (mn + 1) (some b.ml.c), mn + 1 + 1⟩) (fun i => a.auths.length - i) (fun i => i ≤ a.auths.length ∧ a.auths.take i = b.auths.take i) 0 ⟨by omega, by simp⟩ ?_ ?_
  · exact (sbs (by simp (maxSteps := 2000000) only [go_sem, seval, reduceCtorEq, List.append_eq]) rfl rfl)
  rintro i ⟨hi, ht⟩
  by_cases h : i < a.auths.length
  · have f1 : ((i : Int) < (a.auths.length : Int)) = True := eq_true (by omega)
    have g1 : (i < a.auths.length) = True := eq_true h
    have g2 : (i < b.auths.length) = True := eq_true (by omega)
    have v1 := wi1 (n := i) (by omega)
    have oa : (a.auths.getD i au0).ok := ia _ (by rw [List.getD_eq_getElem?_getD, List.getElem?_eq_getElem h]; exact List.getElem_mem _)
    have ob : (b.auths.getD i au0).ok := ib _ (by rw [List.getD_eq_getElem?_getD, List.getElem?_eq_getElem (by omega)]; exact List.getElem_mem _)
    have fa := Au.fit _ oa
    have fb := Au.fit _ ob
    have ga := Au.l_get a.auths au0 i h
    have gb := Au.l_get b.auths au0 i (by omega)
    have lla := Au.l_len a.auths
    have llb := Au.l_len b.auths
    have g3 : (i * 35 + 35 ≤ a.auths.length * 35) = True := eq_true (by omega)
    have g4 : (i * 35 + 35 ≤ b.auths.length * 35) = True := eq_true (by omega)
    by_cases he : a.auths.getD i au0 = b.auths.getD i au0
    · have f2 : (a.auths.getD i au0 = b.auths.getD i au0) = True := eq_true he
      repeat' (first | (with_reducible first | refine pa ?_ | refine pb ?_ | refine pc ?_ | refine nxt_n ?_ | refine nxt_e ?_ | refine nxt_r ?_ | refine blk_n ?_ | refine blk_r ?_ | refine blk_hit ?_ | refine blk_miss (by rfl) ?_ | refine pd ?_ | refine pe ?_ | refine pf ?_ | refine pg ?_ | apply And.intro) | (refine hK _ ?_; first | clear hK K hn0 hcl hΘ Θ | clear hK K hΘ Θ) | (with_reducible first | refine cw1 ?_ | refine cw2 ?_ | exact cw3 | exact cw4) | ((with_reducible first | refine cw5 (fun gg => ?_) | refine cw6 (fun gg => ?_) | refine cw7 (fun gg => ?_)); try simp only [gg]) | refine cs1 hG rfl ?_ ?_ | refine cs2 hG rfl ?_ ?_ | ((first | refine rga hG (by kernel_rfl) (fun Θ K hΘ hK => ?_) | refine rgb hG (by kernel_rfl) (fun Θ K hΘ hK => ?_) | refine rgc defCl hG (by kernel_rfl) cl0 (by rfl) (by kernel_rfl) (fun Θ K hΘ hcl hn0 hK => ?_) | refine rgd defCl hG (by kernel_rfl) cl0 (by rfl) (by kernel_rfl) (fun Θ K hΘ hcl hn0 hK => ?_)); simp (maxSteps := 2000000) only [go_sem, seval, reduceCtorEq, List.append_eq, f1, g1, g2, v1, ga, gb, lla, llb, g3, g4, f2, w1]) | ((first | refine Post.splitN (fun gg => ?_) (fun gg => ?_) | refine PostB.splitN (fun gg => ?_) (fun gg => ?_) | refine Post.split (fun gg => ?_) (fun gg => ?_) | refine PostB.split (fun gg => ?_) (fun gg => ?_)) <;> simp (maxSteps := 2000000) only [go_sem, seval, reduceCtorEq, List.append_eq, gg, f1, g1, g2, v1, ga, gb, lla, llb, g3, g4, f2, w1]) | (refine finR (by simp only [go_sem, seval, reduceCtorEq, List.append_eq, f1, g1, g2, v1, ga, gb, lla, llb, g3, g4, f2, w1]; exact rfl) ?_; simp only [go_sem, seval, reduceCtorEq, List.append_eq, f1, g1, g2, v1, ga, gb, lla, llb, g3, g4, f2, w1]) | refine updL hM ?_ (by omega) | (with_reducible exact fun _ _ => rfl))
      all_goals (first | omega | (simp only [decide_eq_true_eq, decide_eq_false_iff_not] at *; omega) | (simp only [List.length_append, List.length_cons, List.length_nil] <;> omega) | exact one_bv _ | exact one_sv _ | skip)
      any_goals (first | exact fa | exact fb)
      exact ⟨i + 1, ⟨by omega, by rw [take_snoc _ i au0 h, take_snoc _ i au0 (by omega), ht, he]⟩, by omega, (sbs (by simp (maxSteps := 2000000) only [go_sem, seval, reduceCtorEq, List.append_eq]) rfl rfl)⟩
    · have f2 : (a.auths.getD i au0 = b.auths.getD i au0) = False := eq_false he
      have hne : decide (a = b) = false := decide_eq_false fun e => he (by rw [e])
      rw [hne]
      repeat' (first | (with_reducible first | refine pa ?_ | refine pb ?_ | refine pc ?_ | refine nxt_n ?_ | refine nxt_e ?_ | refine nxt_r ?_ | refine blk_n ?_ | refine blk_r ?_ | refine blk_hit ?_ | refine blk_miss (by rfl) ?_ | refine pd ?_ | refine pe ?_ | refine pf ?_ | refine pg ?_ | apply And.intro) | (refine hK _ ?_; first | clear hK K hn0 hcl hΘ Θ | clear hK K hΘ Θ) | (with_reducible first | refine cw1 ?_ | refine cw2 ?_ | exact cw3 | exact cw4) | ((with_reducible first | refine cw5 (fun gg => ?_) | refine cw6 (fun gg => ?_) | refine cw7 (fun gg => ?_)); try simp only [gg]) | refine cs1 hG rfl ?_ ?_ | refine cs2 hG rfl ?_ ?_ | ((first | refine rga hG (by kernel_rfl) (fun Θ K hΘ hK => ?_) | refine rgb hG (by kernel_rfl) (fun Θ K hΘ hK => ?_) | refine rgc defCl hG (by kernel_rfl) cl0 (by rfl) (by kernel_rfl) (fun Θ K hΘ hcl hn0 hK => ?_) | refine rgd defCl hG (by kernel_rfl) cl0 (by rfl) (by kernel_rfl) (fun Θ K hΘ hcl hn0 hK => ?_)); simp (maxSteps := 2000000) only [go_sem, seval, reduceCtorEq, List.append_eq, f1, g1, g2, v1, ga, gb, lla, llb, g3, g4, f2, w1]) | ((first | refine Post.splitN (fun gg => ?_) (fun gg => ?_) | refine PostB.splitN (fun gg => ?_) (fun gg => ?_) | refine Post.split (fun gg => ?_) (fun gg => ?_) | refine PostB.split (fun gg => ?_) (fun gg => ?_)) <;> simp (maxSteps := 2000000) only [go_sem, seval, reduceCtorEq, List.append_eq, gg, f1, g1, g2, v1, ga, gb, lla, llb, g3, g4, f2, w1]) | (refine finR (by simp only [go_sem, seval, reduceCtorEq, List.append_eq, f1, g1, g2, v1, ga, gb, lla, llb, g3, g4, f2, w1]; exact rfl) ?_; simp only [go_sem, seval, reduceCtorEq, List.append_eq, f1, g1, g2, v1, ga, gb, lla, llb, g3, g4, f2, w1]) | refine updL hM ?_ (by omega) | (with_reducible exact fun _ _ => rfl))
      all_goals (first | omega | (simp only [decide_eq_true_eq, decide_eq_false_iff_not] at *; omega) | (simp only [List.length_append, List.length_cons, List.length_nil] <;> omega) | exact one_bv _ | exact one_sv _ | skip)
      any_goals (first | exact fa | exact fb)
  have f1 : ((i : Int) < (a.auths.length : Int)) = False := eq_false (by omega)
  rw [List.take_of_length_le (by omega), List.take_of_length_le (by omega)] at ht
  rw [Mail.eq_iff a b ht]
  repeat' (first | (with_reducible first | refine pa ?_ | refine pb ?_ | refine pc ?_ | refine nxt_n ?_ | refine nxt_e ?_ | refine nxt_r ?_ | refine blk_n ?_ | refine blk_r ?_ | refine blk_hit ?_ | refine blk_miss (by rfl) ?_ | refine pd ?_ | refine pe ?_ | refine pf ?_ | refine pg ?_ | apply And.intro) | (refine hK _ ?_; first | clear hK K hn0 hcl hΘ Θ | clear hK K hΘ Θ) | (with_reducible first | refine cw1 ?_ | refine cw2 ?_ | exact cw3 | exact cw4) | ((with_reducible first | refine cw5 (fun gg => ?_) | refine cw6 (fun gg => ?_) | refine cw7 (fun gg => ?_)); try simp only [gg]) | refine cs1 hG rfl ?_ ?_ | refine cs2 hG rfl ?_ ?_ | ((first | refine kg (hcE _ _) rfl hΘ ?_ | refine kg (hcP _ _) rfl hΘ ?_ | refine rga hG (by kernel_rfl) (fun Θ K hΘ hK => ?_) | refine rgb hG (by kernel_rfl) (fun Θ K hΘ hK => ?_) | refine rgc defCl hG (by kernel_rfl) cl0 (by rfl) (by kernel_rfl) (fun Θ K hΘ hcl hn0 hK => ?_) | refine rgd defCl hG (by kernel_rfl) cl0 (by rfl) (by kernel_rfl) (fun Θ K hΘ hcl hn0 hK => ?_)); simp (maxSteps := 2000000) only [go_sem, seval, reduceCtorEq, List.append_eq, f1, w1]) | ((first | refine Post.splitN (fun gg => ?_) (fun gg => ?_) | refine PostB.splitN (fun gg => ?_) (fun gg => ?_) | refine Post.split (fun gg => ?_) (fun gg => ?_) | refine PostB.split (fun gg => ?_) (fun gg => ?_)) <;> simp (maxSteps := 2000000) only [go_sem, seval, reduceCtorEq, List.append_eq, gg, f1, w1]) | (refine finR (by simp only [go_sem, seval, reduceCtorEq, List.append_eq, f1, w1]; exact rfl) ?_; simp only [go_sem, seval, reduceCtorEq, List.append_eq, f1, w1]) | refine updL hM ?_ (by omega) | (with_reducible exact fun _ _ => rfl))
  all_goals (first | omega | (simp only [decide_eq_true_eq, decide_eq_false_iff_not] at *; omega) | (simp only [List.length_append, List.length_cons, List.length_nil] <;> omega) | exact one_bv _ | exact one_sv _ | skip)
  any_goals (first | exact fa1 | exact fb1)
  all_goals (simp_all <;> (intros; omega))
end Go.VL
