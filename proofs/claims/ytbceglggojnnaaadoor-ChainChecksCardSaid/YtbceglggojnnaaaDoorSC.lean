/- Part SC of the proof: made for this claim. -/
import Derived.Test.YtbceglggojnnaaaDoorSB
set_option linter.unusedVariables false
set_option linter.unusedSimpArgs false
set_option maxRecDepth 100000
set_option maxHeartbeats 8000000
open Go.RowKit
namespace Go.VL
open Go.Proofs
theorem Climb_sp (x : Id16) (a : Int) (ha : inR a) (p : List Id16) (hp : p.length ≤ 1000000) : Rt 69 [.agg (bv x.1), .flat (.int .i64 a), .sl false 16 p.length (esC p)] (.agg (bv (climbE x a p).1)) := by
  intro M mn
  refine fnL (C := kc 37 [] []) (rs := [.cell 6 31]) envOk Tryd.func69 (by kernel_rfl) rfl rfl rfl rfl rfl rfl (lowAgg (FlatS.bv _)) ?_
  intro E hG hM
  repeat' (first | (with_reducible first | refine pa ?_ | refine pb ?_ | refine pc ?_ | refine nxt_n ?_ | refine nxt_e ?_ | refine nxt_r ?_ | refine blk_n ?_ | refine blk_r ?_ | refine blk_hit ?_ | refine blk_miss (by rfl) ?_ | refine pd ?_ | refine pe ?_ | refine pf ?_ | refine pg ?_ | apply And.intro) | (refine hK _ ?_; first | clear hK K hn0 hcl hΘ Θ | clear hK K hΘ Θ) | (with_reducible first | refine cw1 ?_ | refine cw2 ?_ | exact cw3 | exact cw4) | ((with_reducible first | refine cw5 (fun gg => ?_) | refine cw6 (fun gg => ?_) | refine cw7 (fun gg => ?_)); try simp only [gg]) | refine cs1 hG rfl ?_ ?_ | refine cs2 hG rfl ?_ ?_ | ((first | refine rga hG (by kernel_rfl) (fun Θ K hΘ hK => ?_) | refine rgb hG (by kernel_rfl) (fun Θ K hΘ hK => ?_) | refine rgc defCl hG (by kernel_rfl) cl0 (by rfl) (by kernel_rfl) (fun Θ K hΘ hcl hn0 hK => ?_) | refine rgd defCl hG (by kernel_rfl) cl0 (by rfl) (by kernel_rfl) (fun Θ K hΘ hcl hn0 hK => ?_)); simp (maxSteps := 2000000) only [go_sem, seval, reduceCtorEq]) | ((first | refine Post.splitN (fun gg => ?_) (fun gg => ?_) | refine PostB.splitN (fun gg => ?_) (fun gg => ?_) | refine Post.split (fun gg => ?_) (fun gg => ?_) | refine PostB.split (fun gg => ?_) (fun gg => ?_)) <;> simp (maxSteps := 2000000) only [go_sem, seval, reduceCtorEq, gg]) | (refine finR (by simp only [go_sem, seval, reduceCtorEq]; exact rfl) ?_; simp only [go_sem, seval, reduceCtorEq]) | refine updL hM ?_ (by omega) | (with_reducible exact fun _ _ => rfl))
  all_goals (first | omega | (simp only [decide_eq_true_eq, decide_eq_false_iff_not] at *; omega) | (simp only [List.length_append, List.length_cons, List.length_nil] <;> omega) | exact one_bv _ | exact one_sv _ | skip)
  refine WC.loopA (fun q : Nat × Id16 × Int × Mem × Nat => ⟨[(15, .flat (.int .i64 q.1)), (14, .flat (.int .i64 p.length)), (13, .sl false 16 p.length (esC p)), (7, .bp (mn + 1 + 1) 0), (6, .bp (mn + 1) 0), (1, .flat (.int .i64 q.2.2.1))], q.2.2.2.1, q.2.2.2.2⟩) (fun q => p.length - q.1)
    (fun q => q.1 ≤ p.length ∧ inR q.2.2.1 ∧ climbL q.2.1 q.2.2.1 q.1 (p.drop q.1) = climbE x a p ∧ q.2.2.2.1 (mn + 1 + 1) = some (bv q.2.1.1) ∧ q.2.2.2.1 (mn + 1) = some (bv z16.1) ∧ (∀ b, M b ≠ none → q.2.2.2.1 b = M b) ∧ (∀ b, q.2.2.2.2 ≤ b → q.2.2.2.1 b = none) ∧ mn + 1 + 1 + 1 ≤ q.2.2.2.2)
    (0, x, a, upd (upd (upd M mn (some (bv x.1))) (mn + 1) (some (bv z16.1))) (mn + 1 + 1) (some (bv x.1)), mn + 1 + 1 + 1) ⟨by simp only; omega, ha, rfl, upd_same _ _ _, by simp only; rw [upd_ne _ _ (by omega), upd_same], updL hM (updL hM (updL hM (fun _ _ => rfl) (by omega)) (by omega)) (by omega), fun b hb => by
      simp only at hb ⊢
      rw [upd_ne _ _ (by omega), upd_ne _ _ (by omega), upd_ne _ _ (by omega)]; exact hM b (by omega), by simp only; omega⟩ (sbs (by simp (maxSteps := 2000000) only [go_sem, seval, reduceCtorEq, List.append_eq]) rfl rfl) ?_
  rintro ⟨i, y, b, m, n⟩ ⟨hi, hb, hc, h2, h1, hk, hm, hn⟩
  simp only at hi hb hc h2 h1 hk hm hn ⊢
  by_cases h : i < p.length
  · have f1 : ((i : Int) < p.length) = True := eq_true (by omega)
    have g1 : (i < p.length) = True := eq_true h
    have v1 := wi1 (n := i) (by omega)
    have g2 := esC_get p i h
    have u1 : ∀ (A : Mem) z, upd A n z (mn + 1 + 1) = A (mn + 1 + 1) := fun A z => upd_ne _ _ (by omega)
    have u2 : ∀ (A : Mem) z, upd A (n + 1) z (mn + 1 + 1) = A (mn + 1 + 1) := fun A z => upd_ne _ _ (by omega)
    have u3 : ∀ (A : Mem) z, upd A (n + 1 + 1) z (mn + 1 + 1) = A (mn + 1 + 1) := fun A z => upd_ne _ _ (by omega)
    have u4 : ∀ (A : Mem) z, upd A (n + 1) z n = A n := fun A z => upd_ne _ _ (by omega)
    have u5 : ∀ (A : Mem) z, upd A (n + 1 + 1) z n = A n := fun A z => upd_ne _ _ (by omega)
    have w1 := andI_1 b
    have w2 := shrI_1 b
    have z1 : m (n + 1) = none := hm _ (by omega)
    have z2 : m (n + 1 + 1) = none := hm _ (by omega)
    have hd := drop_get p i z16 h
    have hb2 : inR (b / 2) := by unfold inR at hb ⊢; omega
    by_cases ho : b % 2 = 1
    · have g3 := eq_true ho
      rw [hd, climbL, if_pos ho] at hc
      repeat' (first | (with_reducible first | refine pa ?_ | refine pb ?_ | refine pc ?_ | refine nxt_n ?_ | refine nxt_e ?_ | refine nxt_r ?_ | refine blk_n ?_ | refine blk_r ?_ | refine blk_hit ?_ | refine blk_miss (by rfl) ?_ | refine pd ?_ | refine pe ?_ | refine pf ?_ | refine pg ?_ | apply And.intro) | (refine hK _ ?_; first | clear hK K hn0 hcl hΘ Θ | clear hK K hΘ Θ) | (with_reducible first | refine cw1 ?_ | refine cw2 ?_ | exact cw3 | exact cw4) | ((with_reducible first | refine cw5 (fun gg => ?_) | refine cw6 (fun gg => ?_) | refine cw7 (fun gg => ?_)); try simp only [gg]) | refine cs1 hG rfl ?_ ?_ | refine cs2 hG rfl ?_ ?_ | ((fail_if_success (with_reducible first | show WC _ _ _ (.region 7 _ _) _ _ | show WC _ _ _ (.seq (.region 7 _ _) _) _ _)); (first | refine rga hG (by kernel_rfl) (fun Θ K hΘ hK => ?_) | refine rgb hG (by kernel_rfl) (fun Θ K hΘ hK => ?_) | refine rgcR 2 (clW [(0, 4), (1, 4), (2, 9), (3, 10), (4, 6)] defCl) hG (by kernel_rfl) (clW_leR 2 (by rfl)) (by rfl) (by kernel_rfl) (fun Θ K hΘ hcl hn0 hK => ?_) | refine rgdR 2 (clW [(0, 4), (1, 4), (2, 9), (3, 10), (4, 6)] defCl) hG (by kernel_rfl) (clW_leR 2 (by rfl)) (by rfl) (by kernel_rfl) (fun Θ K hΘ hcl hn0 hK => ?_)); simp (maxSteps := 2000000) only [go_sem, seval, reduceCtorEq, f1, g1, v1, g2, u1, u2, u3, h2, h1, w1, w2, z1, z2, g3]) | ((first | refine Post.splitN (fun gg => ?_) (fun gg => ?_) | refine PostB.splitN (fun gg => ?_) (fun gg => ?_) | refine Post.split (fun gg => ?_) (fun gg => ?_) | refine PostB.split (fun gg => ?_) (fun gg => ?_)) <;> simp (maxSteps := 2000000) only [go_sem, seval, reduceCtorEq, gg, f1, g1, v1, g2, u1, u2, u3, h2, h1, w1, w2, z1, z2, g3]) | (refine finR (by simp only [go_sem, seval, reduceCtorEq, f1, g1, v1, g2, u1, u2, u3, h2, h1, w1, w2, z1, z2, g3]; exact rfl) ?_; simp only [go_sem, seval, reduceCtorEq, f1, g1, v1, g2, u1, u2, u3, h2, h1, w1, w2, z1, z2, g3]) | refine updL hM ?_ (by omega) | (with_reducible exact fun _ _ => rfl))
      all_goals (first | omega | exact hM _ (by omega) | (rw [upd_ne _ _ (by omega)]; exact hM _ (by omega)) | (simp only [decide_eq_true_eq, decide_eq_false_iff_not] at *; omega) | (simp only [List.length_append, List.length_cons, List.length_nil] <;> omega) | exact one_bv _ | exact one_sv _ | skip)
      repeat' (first | (with_reducible first | refine pa ?_ | refine pb ?_ | refine pc ?_ | refine nxt_n ?_ | refine nxt_e ?_ | refine nxt_r ?_ | refine blk_n ?_ | refine blk_r ?_ | refine blk_hit ?_ | refine blk_miss (by rfl) ?_ | refine pd ?_ | refine pe ?_ | refine pf ?_ | refine pg ?_ | apply And.intro) | (refine hK _ ?_; first | clear hK K hn0 hcl hΘ Θ | clear hK K hΘ Θ) | (with_reducible first | refine cw1 ?_ | refine cw2 ?_ | exact cw3 | exact cw4) | ((with_reducible first | refine cw5 (fun gg => ?_) | refine cw6 (fun gg => ?_) | refine cw7 (fun gg => ?_)); try simp only [gg]) | refine cs1 hG rfl ?_ ?_ | refine cs2 hG rfl ?_ ?_ | ((first | refine kg (Up_sp (p.getD i z16) y (i + 1 : Nat) (b / 2) (by omega) (by have := hb2.2; omega) _ _) rfl hΘ ?_ | refine rga hG (by kernel_rfl) (fun Θ K hΘ hK => ?_) | refine rgb hG (by kernel_rfl) (fun Θ K hΘ hK => ?_) | refine rgcT (n+1) (clW [(0, 4), (1, 4), (2, 6), (3, 6)] defCl) hG (by simp only; omega) (by kernel_rfl) (clW_le (by rfl)) (by rfl) (by kernel_rfl) (fun Θ K hΘ hcl hn0 hK => ?_) | refine rgdT (n+1) (clW [(0, 4), (1, 4), (2, 6), (3, 6)] defCl) hG (by simp only; omega) (by kernel_rfl) (clW_le (by rfl)) (by rfl) (by kernel_rfl) (fun Θ K hΘ hcl hn0 hK => ?_)); simp (maxSteps := 2000000) only [go_sem, seval, reduceCtorEq, f1, g1, v1, g2, u1, u2, u3, u4, u5, h2, h1, w1, w2, z1, z2, g3]) | ((first | refine Post.splitN (fun gg => ?_) (fun gg => ?_) | refine PostB.splitN (fun gg => ?_) (fun gg => ?_) | refine Post.split (fun gg => ?_) (fun gg => ?_) | refine PostB.split (fun gg => ?_) (fun gg => ?_)) <;> simp (maxSteps := 2000000) only [go_sem, seval, reduceCtorEq, gg, f1, g1, v1, g2, u1, u2, u3, u4, u5, h2, h1, w1, w2, z1, z2, g3]) | (refine finR (by simp only [go_sem, seval, reduceCtorEq, f1, g1, v1, g2, u1, u2, u3, u4, u5, h2, h1, w1, w2, z1, z2, g3]; exact rfl) ?_; simp only [go_sem, seval, reduceCtorEq, f1, g1, v1, g2, u1, u2, u3, u4, u5, h2, h1, w1, w2, z1, z2, g3]) | refine updL hM ?_ (by omega) | (with_reducible exact fun _ _ => rfl))
      all_goals (first | omega | (simp only [decide_eq_true_eq, decide_eq_false_iff_not] at *; omega) | (simp only [List.length_append, List.length_cons, List.length_nil] <;> omega) | exact one_bv _ | exact one_sv _ | skip)
      refine ⟨(i + 1, upE (p.getD i z16) y (i + 1 : Nat) (b / 2), b / 2, upd (upd (upd (upd (upd (upd (upd (upd m n (some (bv (p.getD i z16).1))) (n + 1) (some (bv z16.1))) (n + 1 + 1) (some (bv z16.1))) (n + 1) (some (bv y.1))) (n + 1 + 1) (some (bv (p.getD i z16).1))) (n + 1) (some (bv (p.getD i z16).1))) (n + 1 + 1) (some (bv y.1))) (mn + 1 + 1) (some (bv (upE (p.getD i z16) y (i + 1 : Nat) (b / 2)).1)), n + 1 + 2), ⟨by simp only; omega, hb2, hc, upd_same _ _ _, by (simp only; repeat rw [upd_ne _ _ (by omega)]); exact h1, fun c hc => by
        have hcm : c < mn := Nat.lt_of_not_le fun q => hc (hM c q)
        simp only; repeat rw [upd_ne _ _ (by omega)]
        exact hk c hc, fun c hc => by
        simp only at hc ⊢; repeat rw [upd_ne _ _ (by omega)]
        exact hm c (by omega), by simp only; omega⟩, by simp only; omega, (sbs (by simp (maxSteps := 2000000) only [go_sem, seval, reduceCtorEq, List.append_eq]) rfl rfl)⟩
    · have g3 := eq_false ho
      rw [hd, climbL, if_neg ho] at hc
      repeat' (first | (with_reducible first | refine pa ?_ | refine pb ?_ | refine pc ?_ | refine nxt_n ?_ | refine nxt_e ?_ | refine nxt_r ?_ | refine blk_n ?_ | refine blk_r ?_ | refine blk_hit ?_ | refine blk_miss (by rfl) ?_ | refine pd ?_ | refine pe ?_ | refine pf ?_ | refine pg ?_ | apply And.intro) | (refine hK _ ?_; first | clear hK K hn0 hcl hΘ Θ | clear hK K hΘ Θ) | (with_reducible first | refine cw1 ?_ | refine cw2 ?_ | exact cw3 | exact cw4) | ((with_reducible first | refine cw5 (fun gg => ?_) | refine cw6 (fun gg => ?_) | refine cw7 (fun gg => ?_)); try simp only [gg]) | refine cs1 hG rfl ?_ ?_ | refine cs2 hG rfl ?_ ?_ | ((first | refine kg (Up_sp y (p.getD i z16) (i + 1 : Nat) (b / 2) (by omega) (by have := hb2.2; omega) _ _) rfl hΘ ?_ | refine rga hG (by kernel_rfl) (fun Θ K hΘ hK => ?_) | refine rgb hG (by kernel_rfl) (fun Θ K hΘ hK => ?_) | refine rgcR 2 (clW [(0, 4), (1, 4), (2, 9), (3, 10), (4, 6)] defCl) hG (by kernel_rfl) (clW_leR 2 (by rfl)) (by rfl) (by kernel_rfl) (fun Θ K hΘ hcl hn0 hK => ?_) | refine rgdR 2 (clW [(0, 4), (1, 4), (2, 9), (3, 10), (4, 6)] defCl) hG (by kernel_rfl) (clW_leR 2 (by rfl)) (by rfl) (by kernel_rfl) (fun Θ K hΘ hcl hn0 hK => ?_)); simp (maxSteps := 2000000) only [go_sem, seval, reduceCtorEq, f1, g1, v1, g2, u1, u2, u3, h2, h1, w1, w2, z1, z2, g3]) | ((first | refine Post.splitN (fun gg => ?_) (fun gg => ?_) | refine PostB.splitN (fun gg => ?_) (fun gg => ?_) | refine Post.split (fun gg => ?_) (fun gg => ?_) | refine PostB.split (fun gg => ?_) (fun gg => ?_)) <;> simp (maxSteps := 2000000) only [go_sem, seval, reduceCtorEq, gg, f1, g1, v1, g2, u1, u2, u3, h2, h1, w1, w2, z1, z2, g3]) | (refine finR (by simp only [go_sem, seval, reduceCtorEq, f1, g1, v1, g2, u1, u2, u3, h2, h1, w1, w2, z1, z2, g3]; exact rfl) ?_; simp only [go_sem, seval, reduceCtorEq, f1, g1, v1, g2, u1, u2, u3, h2, h1, w1, w2, z1, z2, g3]) | refine updL hM ?_ (by omega) | (with_reducible exact fun _ _ => rfl))
      all_goals (first | omega | exact hM _ (by omega) | (rw [upd_ne _ _ (by omega)]; exact hM _ (by omega)) | (simp only [decide_eq_true_eq, decide_eq_false_iff_not] at *; omega) | (simp only [List.length_append, List.length_cons, List.length_nil] <;> omega) | exact one_bv _ | exact one_sv _ | skip)
      refine ⟨(i + 1, upE y (p.getD i z16) (i + 1 : Nat) (b / 2), b / 2, upd (upd (upd (upd (upd (upd m n (some (bv (p.getD i z16).1))) (n + 1) (some (bv z16.1))) (n + 1 + 1) (some (bv z16.1))) (n + 1) (some (bv y.1))) (n + 1 + 1) (some (bv (p.getD i z16).1))) (mn + 1 + 1) (some (bv (upE y (p.getD i z16) (i + 1 : Nat) (b / 2)).1)), n + 1 + 2), ⟨by simp only; omega, hb2, hc, upd_same _ _ _, by (simp only; repeat rw [upd_ne _ _ (by omega)]); exact h1, fun c hc => by
        have hcm : c < mn := Nat.lt_of_not_le fun q => hc (hM c q)
        simp only; repeat rw [upd_ne _ _ (by omega)]
        exact hk c hc, fun c hc => by
        simp only at hc ⊢; repeat rw [upd_ne _ _ (by omega)]
        exact hm c (by omega), by simp only; omega⟩, by simp only; omega, (sbs (by simp (maxSteps := 2000000) only [go_sem, seval, reduceCtorEq, List.append_eq]) rfl rfl)⟩
  · have f1 : ((i : Int) < p.length) = False := eq_false (by omega)
    have e : i = p.length := by omega
    subst e
    rw [List.drop_length, climbL] at hc
    subst hc
    repeat' (first | (with_reducible first | refine pa ?_ | refine pb ?_ | refine pc ?_ | refine nxt_n ?_ | refine nxt_e ?_ | refine nxt_r ?_ | refine blk_n ?_ | refine blk_r ?_ | refine blk_hit ?_ | refine blk_miss (by rfl) ?_ | refine pd ?_ | refine pe ?_ | refine pf ?_ | refine pg ?_ | apply And.intro) | (refine hK _ ?_; first | clear hK K hn0 hcl hΘ Θ | clear hK K hΘ Θ) | (with_reducible first | refine cw1 ?_ | refine cw2 ?_ | exact cw3 | exact cw4) | ((with_reducible first | refine cw5 (fun gg => ?_) | refine cw6 (fun gg => ?_) | refine cw7 (fun gg => ?_)); try simp only [gg]) | refine cs1 hG rfl ?_ ?_ | refine cs2 hG rfl ?_ ?_ | ((first | refine rga hG (by kernel_rfl) (fun Θ K hΘ hK => ?_) | refine rgb hG (by kernel_rfl) (fun Θ K hΘ hK => ?_) | refine rgc defCl hG (by kernel_rfl) cl0 (by rfl) (by kernel_rfl) (fun Θ K hΘ hcl hn0 hK => ?_) | refine rgd defCl hG (by kernel_rfl) cl0 (by rfl) (by kernel_rfl) (fun Θ K hΘ hcl hn0 hK => ?_)); simp (maxSteps := 2000000) only [go_sem, seval, reduceCtorEq, f1, h2, h1]) | ((first | refine Post.splitN (fun gg => ?_) (fun gg => ?_) | refine PostB.splitN (fun gg => ?_) (fun gg => ?_) | refine Post.split (fun gg => ?_) (fun gg => ?_) | refine PostB.split (fun gg => ?_) (fun gg => ?_)) <;> simp (maxSteps := 2000000) only [go_sem, seval, reduceCtorEq, gg, f1, h2, h1]) | (refine finR (by simp only [go_sem, seval, reduceCtorEq, f1, h2, h1]; exact rfl) ?_; simp only [go_sem, seval, reduceCtorEq, f1, h2, h1]) | refine updL hM ?_ (by omega) | (with_reducible exact fun _ _ => rfl))
    all_goals (first | omega | (simp only [decide_eq_true_eq, decide_eq_false_iff_not] at *; omega) | (simp only [List.length_append, List.length_cons, List.length_nil] <;> omega) | exact one_bv _ | exact one_sv _ | skip)
end Go.VL

set_option linter.unusedVariables false
set_option linter.unusedSimpArgs false
set_option maxRecDepth 100000
set_option maxHeartbeats 8000000
open Go.RowKit
namespace Go.VL
open Go.Proofs
theorem Digest_sp (r : Id16) (ix : Int) (hix : inR ix) (t : List UInt8) (ht : t.length ≤ 10000000) : Rt 22 [.agg (bv r.1), .flat (.int .i64 ix), .flat (.string (bs t))] (.agg (bv (digE r ix t).1)) := by
  have a1 : ix < 9223372036854775808 := by have := hix.2; omega
  have htt := dig_tot r ix hix t ht
  have hr := r.2
  have hrt : (bv r.1).take 16 = bv r.1 := tk16 r
  have hst : cutE (shaSum [116, 101, 120, 116] [r.1, numB ix.toNat, t]) = digE r ix t := rfl
  intro M mn
  refine fnL (C := kc 15 [] []) (rs := [.cell 6 31]) envOk Tryd.func22 (by kernel_rfl) rfl rfl rfl rfl rfl rfl (lowAgg (FlatS.bv _)) ?_
  intro E hG hM
  repeat' (first | (with_reducible first | refine pa ?_ | refine pb ?_ | refine pc ?_ | refine nxt_n ?_ | refine nxt_e ?_ | refine nxt_r ?_ | refine blk_n ?_ | refine blk_r ?_ | refine blk_hit ?_ | refine blk_miss (by rfl) ?_ | refine pd ?_ | refine pe ?_ | refine pf ?_ | refine pg ?_ | apply And.intro) | (refine hK _ ?_; first | clear hK K hn0 hcl hΘ Θ | clear hK K hΘ Θ) | (with_reducible first | refine cw1 ?_ | refine cw2 ?_ | exact cw3 | exact cw4) | ((with_reducible first | refine cw5 (fun gg => ?_) | refine cw6 (fun gg => ?_) | refine cw7 (fun gg => ?_)); try simp only [gg]) | refine cs1 hG rfl ?_ ?_ | refine cs2 hG rfl ?_ ?_ | ((first | refine kf (fun M n => Num_sp ix a1 M n) rfl (by decide) cl0 hΘ hcl hn0 ?_ | refine kf (fun M n => Sum_sp [116, 101, 120, 116] [r.1, numB ix.toNat, t] (by simp) (by omega) (by simp) M n) rfl (by decide) cl0 hΘ hcl hn0 ?_ | refine kf (fun M n => Cut_sp (shaSum [116, 101, 120, 116] [r.1, numB ix.toNat, t]) M n) rfl (by decide) cl0 hΘ hcl hn0 ?_ | refine rga hG (by kernel_rfl) (fun Θ K hΘ hK => ?_) | refine rgb hG (by kernel_rfl) (fun Θ K hΘ hK => ?_) | refine rgc defCl hG (by kernel_rfl) cl0 (by rfl) (by kernel_rfl) (fun Θ K hΘ hcl hn0 hK => ?_) | refine rgd defCl hG (by kernel_rfl) cl0 (by rfl) (by kernel_rfl) (fun Θ K hΘ hcl hn0 hK => ?_)); simp (maxSteps := 2000000) only [go_sem, seval, reduceCtorEq, hr, hrt, hst]) | ((first | refine Post.splitN (fun gg => ?_) (fun gg => ?_) | refine PostB.splitN (fun gg => ?_) (fun gg => ?_) | refine Post.split (fun gg => ?_) (fun gg => ?_) | refine PostB.split (fun gg => ?_) (fun gg => ?_)) <;> simp (maxSteps := 2000000) only [go_sem, seval, reduceCtorEq, gg, hr, hrt, hst]) | (refine finR (by simp only [go_sem, seval, reduceCtorEq, hr, hrt, hst]; exact rfl) ?_; simp only [go_sem, seval, reduceCtorEq, hr, hrt, hst]) | refine updL hM ?_ (by omega) | (with_reducible exact fun _ _ => rfl))
  all_goals (first | omega | (simp only [decide_eq_true_eq, decide_eq_false_iff_not] at *; omega) | (simp only [List.length_append, List.length_cons, List.length_nil] <;> omega) | exact one_bv _ | exact one_sv _ | skip)
theorem Size_sp (h : Nat) (hh : h ≤ 8) : Rt 24 [.flat (.int .i64 h)] (.flat (.int .i64 (560 + 16 * h : Nat))) := by
  have v1 : IntKind.i64.wrap (16 * (h : Int)) = ((16 * h : Nat) : Int) := by rw [wi (by omega) (by omega)]; omega
  have v2 : IntKind.i64.wrap (560 + ((16 * h : Nat) : Int)) = ((560 + 16 * h : Nat) : Int) := by rw [wi (by omega) (by omega)]; omega
  intro M mn
  refine fnL (C := kc 6 [] []) (rs := [.tmp 2]) envOk Tryd.func24 (by kernel_rfl) rfl rfl rfl rfl rfl rfl (Low.flat _) ?_
  intro E hG hM
  repeat' (first | (with_reducible first | refine pa ?_ | refine pb ?_ | refine pc ?_ | refine nxt_n ?_ | refine nxt_e ?_ | refine nxt_r ?_ | refine blk_n ?_ | refine blk_r ?_ | refine blk_hit ?_ | refine blk_miss (by rfl) ?_ | refine pd ?_ | refine pe ?_ | refine pf ?_ | refine pg ?_ | apply And.intro) | (refine hK _ ?_; clear hK K hΘ Θ) | (with_reducible first | refine cw1 ?_ | refine cw2 ?_ | exact cw3 | exact cw4) | ((with_reducible first | refine cw5 (fun gg => ?_) | refine cw6 (fun gg => ?_) | refine cw7 (fun gg => ?_)); try simp only [gg]) | refine cs1 hG rfl ?_ ?_ | refine cs2 hG rfl ?_ ?_ | ((first | refine rga hG (by kernel_rfl) (fun Θ K hΘ hK => ?_) | refine rgb hG (by kernel_rfl) (fun Θ K hΘ hK => ?_)); simp (maxSteps := 2000000) only [go_sem, seval, reduceCtorEq, v1, v2]) | ((first | refine Post.splitN (fun gg => ?_) (fun gg => ?_) | refine Post.split (fun gg => ?_) (fun gg => ?_)) <;> simp (maxSteps := 2000000) only [go_sem, seval, reduceCtorEq, gg, v1, v2]) | (refine finR (by simp only [go_sem, seval, reduceCtorEq, v1, v2]; exact rfl) ?_; simp only [go_sem, seval, reduceCtorEq, v1, v2]) | refine updL hM ?_ (by omega) | (with_reducible exact fun _ _ => rfl))
  all_goals (first | omega | (simp only [decide_eq_true_eq, decide_eq_false_iff_not] at *; omega) | (simp only [List.length_append, List.length_cons, List.length_nil] <;> omega) | exact one_bv _ | exact one_sv _ | skip)
theorem New_sp (s : List UInt8) (h : Nat) (hs : s.length ≤ 64) (h1 : 1 ≤ h) (h8 : h ≤ 8) (M : Mem) (mn : Nat) : Sp Tryd.prog GL 15 [.flat (.string (bs s)), .flat (.int .i64 h)] M mn (fun r m k => r = .tup [.bp mn 0, .flat (.int .i64 0)] ∧ m = upd M mn (some (kyV s h).c) ∧ k = mn + 1) := by
  have f1 : ((s.length : Int) > 64) = False := eq_false (by omega)
  have f2 : ((h : Int) < 1) = False := eq_false (by omega)
  have f3 : ((h : Int) > 8) = False := eq_false (by omega)
  have v1 := shl_1 h h8
  have hp := pow_le8 h h8
  have kz1 : ky0.leaves = V.nil := rfl
  have kz2 : ky0.root = z16 := rfl
  have kz3 : ({ seed := s, height := (h : Int), leaves := V.nil, root := z16 } : Ky).z = { seed := s, height := (h : Int), leaves := V.nil, root := z16 } := rfl
  have kz4 : noOwnB V.nil = true := rfl
  refine fnP (C := kc 53 [32, 37] []) (rs := [.tmp 4, .tmp 5]) envOk Tryd.func15 (by kernel_rfl) rfl rfl rfl rfl rfl rfl ?_
  intro E hG hM
  repeat' (first | (with_reducible first | refine pa ?_ | refine pb ?_ | refine pc ?_ | refine nxt_n ?_ | refine nxt_e ?_ | refine nxt_r ?_ | refine blk_n ?_ | refine blk_r ?_ | refine blk_hit ?_ | refine blk_miss (by rfl) ?_ | refine pd ?_ | refine pe ?_ | refine pf ?_ | refine pg ?_ | apply And.intro) | (refine hK _ ?_; first | clear hK K hn0 hcl hΘ Θ | clear hK K hΘ Θ) | (with_reducible first | refine cw1 ?_ | refine cw2 ?_ | exact cw3 | exact cw4) | ((with_reducible first | refine cw5 (fun gg => ?_) | refine cw6 (fun gg => ?_) | refine cw7 (fun gg => ?_)); try simp only [gg]) | refine cs1 hG rfl ?_ ?_ | refine cs2 hG rfl ?_ ?_ | ((first | refine rga hG (by kernel_rfl) (fun Θ K hΘ hK => ?_) | refine rgb hG (by kernel_rfl) (fun Θ K hΘ hK => ?_) | refine rgc defCl hG (by kernel_rfl) cl0 (by rfl) (by kernel_rfl) (fun Θ K hΘ hcl hn0 hK => ?_) | refine rgd defCl hG (by kernel_rfl) cl0 (by rfl) (by kernel_rfl) (fun Θ K hΘ hcl hn0 hK => ?_)); simp (maxSteps := 2000000) only [go_sem, seval, reduceCtorEq, List.append_eq, f1, f2, f3, v1, kz1, kz2, kz3, kz4]) | ((first | refine Post.splitN (fun gg => ?_) (fun gg => ?_) | refine PostB.splitN (fun gg => ?_) (fun gg => ?_) | refine Post.split (fun gg => ?_) (fun gg => ?_) | refine PostB.split (fun gg => ?_) (fun gg => ?_)) <;> simp (maxSteps := 2000000) only [go_sem, seval, reduceCtorEq, List.append_eq, gg, f1, f2, f3, v1, kz1, kz2, kz3, kz4]) | (refine finR (by simp only [go_sem, seval, reduceCtorEq, List.append_eq, f1, f2, f3, v1, kz1, kz2, kz3, kz4]; exact rfl) ?_; simp only [go_sem, seval, reduceCtorEq, List.append_eq, f1, f2, f3, v1, kz1, kz2, kz3, kz4]) | refine updL hM ?_ (by omega) | (with_reducible exact fun _ _ => rfl))
  all_goals (first | omega | (simp only [decide_eq_true_eq, decide_eq_false_iff_not] at *; omega) | (simp only [List.length_append, List.length_cons, List.length_nil] <;> omega) | exact one_bv _ | exact one_sv _ | skip)
  refine WC.cellNil 16 (b := mn) (off := 2) (l := Ky.c ⟨s, h, .nil, z16⟩) ?_ (by simp [Ky.c_len]) (Ky.r2 _) ?_
  · exact upd_same _ _ _
  simp only [upd_upd, Ky.w2]
  refine WC.loopA (fun i : Nat => ⟨[(25, .flat (.int .i64 i)), (24, .flat (.int .i64 (2 ^ h : Nat))), (6, .bp mn 0), (1, .flat (.int .i64 h)), (0, .flat (.string (bs s)))], upd M mn (some (Ky.c ⟨s, h, .sl true 16 i (esC (leafN s i)), z16⟩)), mn + 1⟩) (fun i => 2 ^ h - i) (fun i => i ≤ 2 ^ h) 0 (Nat.zero_le _) (sbs (by simp (maxSteps := 2000000) only [go_sem, seval, reduceCtorEq, List.append_eq, leafN_0, esC_nil]) rfl rfl) ?_
  intro i hi
  by_cases hlt : i < 2 ^ h
  · have g1 : ((i : Int) < ((2 ^ h : Nat) : Int)) = True := eq_true (by omega)
    have v2 := wi1 (n := i) (by omega)
    have hc : inR (i : Int) := by unfold inR; omega
    have hA := esC_app (leafN s i) (keyE s i)
    rw [← leafN_succ] at hA
    have hl := leafN_len s i
    repeat' (first | (with_reducible first | refine pa ?_ | refine pb ?_ | refine pc ?_ | refine nxt_n ?_ | refine nxt_e ?_ | refine nxt_r ?_ | refine blk_n ?_ | refine blk_r ?_ | refine blk_hit ?_ | refine blk_miss (by rfl) ?_ | refine pd ?_ | refine pe ?_ | refine pf ?_ | refine pg ?_ | apply And.intro) | (refine hK _ ?_; first | clear hK K hn0 hcl hΘ Θ | clear hK K hΘ Θ) | (with_reducible first | refine cw1 ?_ | refine cw2 ?_ | exact cw3 | exact cw4) | ((with_reducible first | refine cw5 (fun gg => ?_) | refine cw6 (fun gg => ?_) | refine cw7 (fun gg => ?_)); try simp only [gg]) | refine cs1 hG rfl ?_ ?_ | refine cs2 hG rfl ?_ ?_ | ((first | refine kf (fun M n => Leaf_sp s (by omega) i hc M n) rfl (by decide) (clW_le (by rfl)) hΘ hcl hn0 ?_ | refine rga hG (by kernel_rfl) (fun Θ K hΘ hK => ?_) | refine rgb hG (by kernel_rfl) (fun Θ K hΘ hK => ?_) | refine rgc (clW [(4, 2)] defCl) hG (by kernel_rfl) (clW_le (by rfl)) (by rfl) (by kernel_rfl) (fun Θ K hΘ hcl hn0 hK => ?_) | refine rgd (clW [(4, 2)] defCl) hG (by kernel_rfl) (clW_le (by rfl)) (by rfl) (by kernel_rfl) (fun Θ K hΘ hcl hn0 hK => ?_)); simp (maxSteps := 2000000) only [go_sem, seval, reduceCtorEq, List.append_eq, g1, v2, hA, hl]) | ((first | refine Post.splitN (fun gg => ?_) (fun gg => ?_) | refine PostB.splitN (fun gg => ?_) (fun gg => ?_) | refine Post.split (fun gg => ?_) (fun gg => ?_) | refine PostB.split (fun gg => ?_) (fun gg => ?_)) <;> simp (maxSteps := 2000000) only [go_sem, seval, reduceCtorEq, List.append_eq, gg, g1, v2, hA, hl]) | (refine finR (by simp only [go_sem, seval, reduceCtorEq, List.append_eq, g1, v2, hA, hl]; exact rfl) ?_; simp only [go_sem, seval, reduceCtorEq, List.append_eq, g1, v2, hA, hl]) | refine updL hM ?_ (by omega) | (with_reducible exact fun _ _ => rfl))
    all_goals (first | omega | (simp only [decide_eq_true_eq, decide_eq_false_iff_not] at *; omega) | (simp only [List.length_append, List.length_cons, List.length_nil] <;> omega) | exact one_bv _ | exact one_sv _ | skip)
    exact ⟨i + 1, by omega, by omega, (sbs (by simp (maxSteps := 2000000) only [go_sem, seval, reduceCtorEq, List.append_eq]) rfl rfl)⟩
  · have g1 : ((i : Int) < ((2 ^ h : Nat) : Int)) = False := eq_false (by omega)
    have e : i = 2 ^ h := by omega
    have hl := leafN_len s (2 ^ h)
    have hR := Root_sp (leafN s (2 ^ h)) h h8 hl (by rw [hl]; exact goodN_two h h8)
    rw [hl] at hR
    have hrk : atE (leafN s (2 ^ h)) h 0 = rootK s h := rfl
    rw [hrk] at hR
    rw [e]
    rw [e] at g1
    repeat' (first | (with_reducible first | refine pa ?_ | refine pb ?_ | refine pc ?_ | refine nxt_n ?_ | refine nxt_e ?_ | refine nxt_r ?_ | refine blk_n ?_ | refine blk_r ?_ | refine blk_hit ?_ | refine blk_miss (by rfl) ?_ | refine pd ?_ | refine pe ?_ | refine pf ?_ | refine pg ?_ | apply And.intro) | (refine hK _ ?_; first | clear hK K hn0 hcl hΘ Θ | clear hK K hΘ Θ) | (with_reducible first | refine cw1 ?_ | refine cw2 ?_ | exact cw3 | exact cw4) | ((with_reducible first | refine cw5 (fun gg => ?_) | refine cw6 (fun gg => ?_) | refine cw7 (fun gg => ?_)); try simp only [gg]) | refine cs1 hG rfl ?_ ?_ | refine cs2 hG rfl ?_ ?_ | ((first | refine kg (hR _ _) rfl hΘ ?_ | refine kf (fun M n => hR M n) rfl (by decide) cl0 hΘ hcl hn0 ?_ | refine rga hG (by kernel_rfl) (fun Θ K hΘ hK => ?_) | refine rgb hG (by kernel_rfl) (fun Θ K hΘ hK => ?_) | refine rgc defCl hG (by kernel_rfl) cl0 (by rfl) (by kernel_rfl) (fun Θ K hΘ hcl hn0 hK => ?_) | refine rgd defCl hG (by kernel_rfl) cl0 (by rfl) (by kernel_rfl) (fun Θ K hΘ hcl hn0 hK => ?_)); simp (maxSteps := 2000000) only [go_sem, seval, reduceCtorEq, List.append_eq, g1, hl]) | ((first | refine Post.splitN (fun gg => ?_) (fun gg => ?_) | refine PostB.splitN (fun gg => ?_) (fun gg => ?_) | refine Post.split (fun gg => ?_) (fun gg => ?_) | refine PostB.split (fun gg => ?_) (fun gg => ?_)) <;> simp (maxSteps := 2000000) only [go_sem, seval, reduceCtorEq, List.append_eq, gg, g1, hl]) | (refine finR (by simp only [go_sem, seval, reduceCtorEq, List.append_eq, g1, hl]; exact rfl) ?_; simp only [go_sem, seval, reduceCtorEq, List.append_eq, g1, hl]) | refine updL hM ?_ (by omega) | (with_reducible exact fun _ _ => rfl))
    all_goals (first | omega | (simp only [decide_eq_true_eq, decide_eq_false_iff_not] at *; omega) | (simp only [List.length_append, List.length_cons, List.length_nil] <;> omega) | exact one_bv _ | exact one_sv _ | skip)
    all_goals rfl
theorem Count_sp (b : Nat) (s : List UInt8) (h : Nat) (h8 : h ≤ 8) (M : Mem) (mn : Nat) (hb : M b = some (kyV s h).c) : Sp Tryd.prog GL 17 [.bp b 0] M mn (fun r m k => r = .flat (.int .i64 (2 ^ h : Nat)) ∧ m = M ∧ k = mn) := by
  have v1 := shl_1 h h8
  have hk : (kyV s h).height = h := rfl
  refine fnP (C := kc 10 [] []) (rs := [.tmp 2]) envOk Tryd.func17 (by kernel_rfl) rfl rfl rfl rfl rfl rfl ?_
  intro E hG hM
  repeat' (first | (with_reducible first | refine pa ?_ | refine pb ?_ | refine pc ?_ | refine nxt_n ?_ | refine nxt_e ?_ | refine nxt_r ?_ | refine blk_n ?_ | refine blk_r ?_ | refine blk_hit ?_ | refine blk_miss (by rfl) ?_ | refine pd ?_ | refine pe ?_ | refine pf ?_ | refine pg ?_ | apply And.intro) | (refine hK _ ?_; clear hK K hΘ Θ) | (with_reducible first | refine cw1 ?_ | refine cw2 ?_ | exact cw3 | exact cw4) | ((with_reducible first | refine cw5 (fun gg => ?_) | refine cw6 (fun gg => ?_) | refine cw7 (fun gg => ?_)); try simp only [gg]) | refine cs1 hG rfl ?_ ?_ | refine cs2 hG rfl ?_ ?_ | ((first | refine rga hG (by kernel_rfl) (fun Θ K hΘ hK => ?_) | refine rgb hG (by kernel_rfl) (fun Θ K hΘ hK => ?_)); simp (maxSteps := 2000000) only [go_sem, seval, reduceCtorEq, hb, v1, hk]) | ((first | refine Post.splitN (fun gg => ?_) (fun gg => ?_) | refine Post.split (fun gg => ?_) (fun gg => ?_)) <;> simp (maxSteps := 2000000) only [go_sem, seval, reduceCtorEq, gg, hb, v1, hk]) | (refine finR (by simp only [go_sem, seval, reduceCtorEq, hb, v1, hk]; exact rfl) ?_; simp only [go_sem, seval, reduceCtorEq, hb, v1, hk]) | refine updL hM ?_ (by omega) | (with_reducible exact fun _ _ => rfl))
  all_goals (first | omega | (simp only [decide_eq_true_eq, decide_eq_false_iff_not] at *; omega) | (simp only [List.length_append, List.length_cons, List.length_nil] <;> omega) | exact one_bv _ | exact one_sv _ | skip)
theorem box_lt {M : Mem} {mn b : Nat} {l : List V} (hM : ∀ k, mn ≤ k → M k = none) (hb : M b = some l) : b < mn := Nat.lt_of_not_le (fun q => by rw [hM b q] at hb; cases hb)
end Go.VL

set_option linter.unusedVariables false
set_option linter.unusedSimpArgs false
set_option maxRecDepth 100000
set_option maxHeartbeats 8000000
open Go.RowKit
namespace Go.VL
open Go.Proofs
theorem verE_no (n : Nd) (ix : Int) (t g : List UInt8) (h : ¬ (1 ≤ n.height ∧ n.height ≤ 8 ∧ 0 ≤ ix ∧ ix < (2 ^ n.height.toNat : Nat) ∧ g.length = 560 + 16 * n.height.toNat)) : verE n ix t g = false := by
  unfold verE verOk
  rw [decide_eq_false h]; rfl
theorem Verify_sp (n : Nd) (hn : inR n.height) (ix : Int) (hix : inR ix) (t : List UInt8) (ht : t.length ≤ 10000000) (g : List UInt8) (hgl : g.length ≤ 140737488351232) : Rt 25 [.agg n.c, .flat (.int .i64 ix), .flat (.string (bs t)), .flat (.string (bs g))] (.flat (.bool (verE n ix t g))) := by
  by_cases h1 : n.height < 1
  · have f1 := eq_true h1
    rw [verE_no n ix t g (by omega)]
    intro M mn
    refine fnL (C := kc 80 [61] []) (rs := [.tmp 8]) envOk Tryd.func25 (by kernel_rfl) rfl rfl rfl rfl rfl rfl (Low.flat _) ?_
    intro E hG hM
    repeat' (first | (with_reducible first | refine pa ?_ | refine pb ?_ | refine pc ?_ | refine nxt_n ?_ | refine nxt_e ?_ | refine nxt_r ?_ | refine blk_n ?_ | refine blk_r ?_ | refine blk_hit ?_ | refine blk_miss (by rfl) ?_ | refine pd ?_ | refine pe ?_ | refine pf ?_ | refine pg ?_ | apply And.intro) | (refine hK _ ?_; first | clear hK K hn0 hcl hΘ Θ | clear hK K hΘ Θ) | (with_reducible first | refine cw1 ?_ | refine cw2 ?_ | exact cw3 | exact cw4) | ((with_reducible first | refine cw5 (fun gg => ?_) | refine cw6 (fun gg => ?_) | refine cw7 (fun gg => ?_)); try simp only [gg]) | refine cs1 hG rfl ?_ ?_ | refine cs2 hG rfl ?_ ?_ | ((first | refine rga hG (by kernel_rfl) (fun Θ K hΘ hK => ?_) | refine rgb hG (by kernel_rfl) (fun Θ K hΘ hK => ?_) | refine rgc defCl hG (by kernel_rfl) cl0 (by rfl) (by kernel_rfl) (fun Θ K hΘ hcl hn0 hK => ?_) | refine rgd defCl hG (by kernel_rfl) cl0 (by rfl) (by kernel_rfl) (fun Θ K hΘ hcl hn0 hK => ?_)); simp (maxSteps := 2000000) only [go_sem, seval, reduceCtorEq, List.append_eq, f1]) | ((first | refine Post.splitN (fun gg => ?_) (fun gg => ?_) | refine PostB.splitN (fun gg => ?_) (fun gg => ?_) | refine Post.split (fun gg => ?_) (fun gg => ?_) | refine PostB.split (fun gg => ?_) (fun gg => ?_)) <;> simp (maxSteps := 2000000) only [go_sem, seval, reduceCtorEq, List.append_eq, gg, f1]) | (refine finR (by simp only [go_sem, seval, reduceCtorEq, List.append_eq, f1]; exact rfl) ?_; simp only [go_sem, seval, reduceCtorEq, List.append_eq, f1]) | refine updL hM ?_ (by omega) | (with_reducible exact fun _ _ => rfl))
    all_goals (first | omega | (simp only [decide_eq_true_eq, decide_eq_false_iff_not] at *; omega) | (simp only [List.length_append, List.length_cons, List.length_nil] <;> omega) | exact one_bv _ | exact one_sv _ | skip)
  have f1 := eq_false h1
  by_cases h2 : n.height > 8
  · have f2 := eq_true h2
    rw [verE_no n ix t g (by omega)]
    intro M mn
    refine fnL (C := kc 80 [61] []) (rs := [.tmp 8]) envOk Tryd.func25 (by kernel_rfl) rfl rfl rfl rfl rfl rfl (Low.flat _) ?_
    intro E hG hM
    repeat' (first | (with_reducible first | refine pa ?_ | refine pb ?_ | refine pc ?_ | refine nxt_n ?_ | refine nxt_e ?_ | refine nxt_r ?_ | refine blk_n ?_ | refine blk_r ?_ | refine blk_hit ?_ | refine blk_miss (by rfl) ?_ | refine pd ?_ | refine pe ?_ | refine pf ?_ | refine pg ?_ | apply And.intro) | (refine hK _ ?_; first | clear hK K hn0 hcl hΘ Θ | clear hK K hΘ Θ) | (with_reducible first | refine cw1 ?_ | refine cw2 ?_ | exact cw3 | exact cw4) | ((with_reducible first | refine cw5 (fun gg => ?_) | refine cw6 (fun gg => ?_) | refine cw7 (fun gg => ?_)); try simp only [gg]) | refine cs1 hG rfl ?_ ?_ | refine cs2 hG rfl ?_ ?_ | ((first | refine rga hG (by kernel_rfl) (fun Θ K hΘ hK => ?_) | refine rgb hG (by kernel_rfl) (fun Θ K hΘ hK => ?_) | refine rgc defCl hG (by kernel_rfl) cl0 (by rfl) (by kernel_rfl) (fun Θ K hΘ hcl hn0 hK => ?_) | refine rgd defCl hG (by kernel_rfl) cl0 (by rfl) (by kernel_rfl) (fun Θ K hΘ hcl hn0 hK => ?_)); simp (maxSteps := 2000000) only [go_sem, seval, reduceCtorEq, List.append_eq, f1, f2]) | ((first | refine Post.splitN (fun gg => ?_) (fun gg => ?_) | refine PostB.splitN (fun gg => ?_) (fun gg => ?_) | refine Post.split (fun gg => ?_) (fun gg => ?_) | refine PostB.split (fun gg => ?_) (fun gg => ?_)) <;> simp (maxSteps := 2000000) only [go_sem, seval, reduceCtorEq, List.append_eq, gg, f1, f2]) | (refine finR (by simp only [go_sem, seval, reduceCtorEq, List.append_eq, f1, f2]; exact rfl) ?_; simp only [go_sem, seval, reduceCtorEq, List.append_eq, f1, f2]) | refine updL hM ?_ (by omega) | (with_reducible exact fun _ _ => rfl))
    all_goals (first | omega | (simp only [decide_eq_true_eq, decide_eq_false_iff_not] at *; omega) | (simp only [List.length_append, List.length_cons, List.length_nil] <;> omega) | exact one_bv _ | exact one_sv _ | skip)
  have f2 := eq_false h2
  by_cases h3 : ix < 0
  · have f3 := eq_true h3
    rw [verE_no n ix t g (by omega)]
    intro M mn
    refine fnL (C := kc 80 [61] []) (rs := [.tmp 8]) envOk Tryd.func25 (by kernel_rfl) rfl rfl rfl rfl rfl rfl (Low.flat _) ?_
    intro E hG hM
    repeat' (first | (with_reducible first | refine pa ?_ | refine pb ?_ | refine pc ?_ | refine nxt_n ?_ | refine nxt_e ?_ | refine nxt_r ?_ | refine blk_n ?_ | refine blk_r ?_ | refine blk_hit ?_ | refine blk_miss (by rfl) ?_ | refine pd ?_ | refine pe ?_ | refine pf ?_ | refine pg ?_ | apply And.intro) | (refine hK _ ?_; first | clear hK K hn0 hcl hΘ Θ | clear hK K hΘ Θ) | (with_reducible first | refine cw1 ?_ | refine cw2 ?_ | exact cw3 | exact cw4) | ((with_reducible first | refine cw5 (fun gg => ?_) | refine cw6 (fun gg => ?_) | refine cw7 (fun gg => ?_)); try simp only [gg]) | refine cs1 hG rfl ?_ ?_ | refine cs2 hG rfl ?_ ?_ | ((first | refine rga hG (by kernel_rfl) (fun Θ K hΘ hK => ?_) | refine rgb hG (by kernel_rfl) (fun Θ K hΘ hK => ?_) | refine rgc defCl hG (by kernel_rfl) cl0 (by rfl) (by kernel_rfl) (fun Θ K hΘ hcl hn0 hK => ?_) | refine rgd defCl hG (by kernel_rfl) cl0 (by rfl) (by kernel_rfl) (fun Θ K hΘ hcl hn0 hK => ?_)); simp (maxSteps := 2000000) only [go_sem, seval, reduceCtorEq, List.append_eq, f1, f2, f3]) | ((first | refine Post.splitN (fun gg => ?_) (fun gg => ?_) | refine PostB.splitN (fun gg => ?_) (fun gg => ?_) | refine Post.split (fun gg => ?_) (fun gg => ?_) | refine PostB.split (fun gg => ?_) (fun gg => ?_)) <;> simp (maxSteps := 2000000) only [go_sem, seval, reduceCtorEq, List.append_eq, gg, f1, f2, f3]) | (refine finR (by simp only [go_sem, seval, reduceCtorEq, List.append_eq, f1, f2, f3]; exact rfl) ?_; simp only [go_sem, seval, reduceCtorEq, List.append_eq, f1, f2, f3]) | refine updL hM ?_ (by omega) | (with_reducible exact fun _ _ => rfl))
    all_goals (first | omega | (simp only [decide_eq_true_eq, decide_eq_false_iff_not] at *; omega) | (simp only [List.length_append, List.length_cons, List.length_nil] <;> omega) | exact one_bv _ | exact one_sv _ | skip)
  have f3 := eq_false h3
  obtain ⟨root, height⟩ := n
  obtain ⟨h, rfl⟩ : ∃ h : Nat, height = h := ⟨height.toNat, by simp only at h1; omega⟩
  simp only at h1 h2 f1 f2
  have h8 : h ≤ 8 := by omega
  have hp := pow_le8 h h8
  have v1 := shl_1 h h8
  by_cases h4 : ix ≥ ((2 ^ h : Nat) : Int)
  · have f4 := eq_true h4
    rw [verE_no _ ix t g (by simp only [Int.toNat_natCast]; omega)]
    intro M mn
    refine fnL (C := kc 80 [61] []) (rs := [.tmp 8]) envOk Tryd.func25 (by kernel_rfl) rfl rfl rfl rfl rfl rfl (Low.flat _) ?_
    intro E hG hM
    repeat' (first | (with_reducible first | refine pa ?_ | refine pb ?_ | refine pc ?_ | refine nxt_n ?_ | refine nxt_e ?_ | refine nxt_r ?_ | refine blk_n ?_ | refine blk_r ?_ | refine blk_hit ?_ | refine blk_miss (by rfl) ?_ | refine pd ?_ | refine pe ?_ | refine pf ?_ | refine pg ?_ | apply And.intro) | (refine hK _ ?_; first | clear hK K hn0 hcl hΘ Θ | clear hK K hΘ Θ) | (with_reducible first | refine cw1 ?_ | refine cw2 ?_ | exact cw3 | exact cw4) | ((with_reducible first | refine cw5 (fun gg => ?_) | refine cw6 (fun gg => ?_) | refine cw7 (fun gg => ?_)); try simp only [gg]) | refine cs1 hG rfl ?_ ?_ | refine cs2 hG rfl ?_ ?_ | ((first | refine rga hG (by kernel_rfl) (fun Θ K hΘ hK => ?_) | refine rgb hG (by kernel_rfl) (fun Θ K hΘ hK => ?_) | refine rgc defCl hG (by kernel_rfl) cl0 (by rfl) (by kernel_rfl) (fun Θ K hΘ hcl hn0 hK => ?_) | refine rgd defCl hG (by kernel_rfl) cl0 (by rfl) (by kernel_rfl) (fun Θ K hΘ hcl hn0 hK => ?_)); simp (maxSteps := 2000000) only [go_sem, seval, reduceCtorEq, List.append_eq, f1, f2, f3, v1, f4]) | ((first | refine Post.splitN (fun gg => ?_) (fun gg => ?_) | refine PostB.splitN (fun gg => ?_) (fun gg => ?_) | refine Post.split (fun gg => ?_) (fun gg => ?_) | refine PostB.split (fun gg => ?_) (fun gg => ?_)) <;> simp (maxSteps := 2000000) only [go_sem, seval, reduceCtorEq, List.append_eq, gg, f1, f2, f3, v1, f4]) | (refine finR (by simp only [go_sem, seval, reduceCtorEq, List.append_eq, f1, f2, f3, v1, f4]; exact rfl) ?_; simp only [go_sem, seval, reduceCtorEq, List.append_eq, f1, f2, f3, v1, f4]) | refine updL hM ?_ (by omega) | (with_reducible exact fun _ _ => rfl))
    all_goals (first | omega | (simp only [decide_eq_true_eq, decide_eq_false_iff_not] at *; omega) | (simp only [List.length_append, List.length_cons, List.length_nil] <;> omega) | exact one_bv _ | exact one_sv _ | skip)
  have f4 := eq_false h4
  by_cases h5 : g.length = 560 + 16 * h
  case neg =>
    have f5 : ((g.length : Int) = ((560 + 16 * h : Nat) : Int)) = False := eq_false (by omega)
    rw [verE_no _ ix t g (by simp only [Int.toNat_natCast]; omega)]
    intro M mn
    refine fnL (C := kc 80 [61] []) (rs := [.tmp 8]) envOk Tryd.func25 (by kernel_rfl) rfl rfl rfl rfl rfl rfl (Low.flat _) ?_
    intro E hG hM
    repeat' (first | (with_reducible first | refine pa ?_ | refine pb ?_ | refine pc ?_ | refine nxt_n ?_ | refine nxt_e ?_ | refine nxt_r ?_ | refine blk_n ?_ | refine blk_r ?_ | refine blk_hit ?_ | refine blk_miss (by rfl) ?_ | refine pd ?_ | refine pe ?_ | refine pf ?_ | refine pg ?_ | apply And.intro) | (refine hK _ ?_; first | clear hK K hn0 hcl hΘ Θ | clear hK K hΘ Θ) | (with_reducible first | refine cw1 ?_ | refine cw2 ?_ | exact cw3 | exact cw4) | ((with_reducible first | refine cw5 (fun gg => ?_) | refine cw6 (fun gg => ?_) | refine cw7 (fun gg => ?_)); try simp only [gg]) | refine cs1 hG rfl ?_ ?_ | refine cs2 hG rfl ?_ ?_ | ((first | refine kg (Size_sp h h8 _ _) rfl hΘ ?_ | refine rga hG (by kernel_rfl) (fun Θ K hΘ hK => ?_) | refine rgb hG (by kernel_rfl) (fun Θ K hΘ hK => ?_) | refine rgc defCl hG (by kernel_rfl) cl0 (by rfl) (by kernel_rfl) (fun Θ K hΘ hcl hn0 hK => ?_) | refine rgd defCl hG (by kernel_rfl) cl0 (by rfl) (by kernel_rfl) (fun Θ K hΘ hcl hn0 hK => ?_)); simp (maxSteps := 2000000) only [go_sem, seval, reduceCtorEq, List.append_eq, f1, f2, f3, v1, f4, f5]) | ((first | refine Post.splitN (fun gg => ?_) (fun gg => ?_) | refine PostB.splitN (fun gg => ?_) (fun gg => ?_) | refine Post.split (fun gg => ?_) (fun gg => ?_) | refine PostB.split (fun gg => ?_) (fun gg => ?_)) <;> simp (maxSteps := 2000000) only [go_sem, seval, reduceCtorEq, List.append_eq, gg, f1, f2, f3, v1, f4, f5]) | (refine finR (by simp only [go_sem, seval, reduceCtorEq, List.append_eq, f1, f2, f3, v1, f4, f5]; exact rfl) ?_; simp only [go_sem, seval, reduceCtorEq, List.append_eq, f1, f2, f3, v1, f4, f5]) | refine updL hM ?_ (by omega) | (with_reducible exact fun _ _ => rfl))
    all_goals (first | omega | (simp only [decide_eq_true_eq, decide_eq_false_iff_not] at *; omega) | (simp only [List.length_append, List.length_cons, List.length_nil] <;> omega) | exact one_bv _ | exact one_sv _ | skip)
  have f5 : ((g.length : Int) = ((560 + 16 * h : Nat) : Int)) = True := eq_true (by omega)
  have hv : verE ⟨root, h⟩ ix t g = decide (climbE (meetE (g.take 560) ix (digE root ix t)) ix (pathS g h) = root) := by
    unfold verE verOk
    rw [decide_eq_true (by simp only [Int.toNat_natCast]; omega)]
    simp
  rw [hv]
  have hml : (g.take 560).length = 560 := by rw [List.length_take]; omega
  have hM1 := Meet_sp (g.take 560) hml ix hix (digE root ix t)
  have hLx := (meetE (g.take 560) ix (digE root ix t)).2
  have hLt : (bv (meetE (g.take 560) ix (digE root ix t)).1).take 16 = bv (meetE (g.take 560) ix (digE root ix t)).1 := tk16 _
  have f6 : (560 ≤ g.length) = True := eq_true (by omega)
  generalize meetE (g.take 560) ix (digE root ix t) = L at *
  intro M mn
  refine fnL (C := kc 80 [61] []) (rs := [.tmp 8]) envOk Tryd.func25 (by kernel_rfl) rfl rfl rfl rfl rfl rfl (Low.flat _) ?_
  intro E hG hM
  repeat' (first | (with_reducible first | refine pa ?_ | refine pb ?_ | refine pc ?_ | refine nxt_n ?_ | refine nxt_e ?_ | refine nxt_r ?_ | refine blk_n ?_ | refine blk_r ?_ | refine blk_hit ?_ | refine blk_miss (by rfl) ?_ | refine pd ?_ | refine pe ?_ | refine pf ?_ | refine pg ?_ | apply And.intro) | (refine hK _ ?_; first | clear hK K hn0 hcl hΘ Θ | clear hK K hΘ Θ) | (with_reducible first | refine cw1 ?_ | refine cw2 ?_ | exact cw3 | exact cw4) | ((with_reducible first | refine cw5 (fun gg => ?_) | refine cw6 (fun gg => ?_) | refine cw7 (fun gg => ?_)); try simp only [gg]) | refine cs1 hG rfl ?_ ?_ | refine cs2 hG rfl ?_ ?_ | ((fail_if_success (with_reducible first | show WC _ _ _ (.region 3 _ _) _ _ | show WC _ _ _ (.seq (.region 3 _ _) _) _ _)); (first | refine kg (Size_sp h h8 _ _) rfl hΘ ?_ | refine rga hG (by kernel_rfl) (fun Θ K hΘ hK => ?_) | refine rgb hG (by kernel_rfl) (fun Θ K hΘ hK => ?_) | refine rgc defCl hG (by kernel_rfl) cl0 (by rfl) (by kernel_rfl) (fun Θ K hΘ hcl hn0 hK => ?_) | refine rgd defCl hG (by kernel_rfl) cl0 (by rfl) (by kernel_rfl) (fun Θ K hΘ hcl hn0 hK => ?_)); simp (maxSteps := 2000000) only [go_sem, seval, reduceCtorEq, List.append_eq, f1, f2, f3, v1, f4, f5]) | ((first | refine Post.splitN (fun gg => ?_) (fun gg => ?_) | refine PostB.splitN (fun gg => ?_) (fun gg => ?_) | refine Post.split (fun gg => ?_) (fun gg => ?_) | refine PostB.split (fun gg => ?_) (fun gg => ?_)) <;> simp (maxSteps := 2000000) only [go_sem, seval, reduceCtorEq, List.append_eq, gg, f1, f2, f3, v1, f4, f5]) | (refine finR (by simp only [go_sem, seval, reduceCtorEq, List.append_eq, f1, f2, f3, v1, f4, f5]; exact rfl) ?_; simp only [go_sem, seval, reduceCtorEq, List.append_eq, f1, f2, f3, v1, f4, f5]) | refine updL hM ?_ (by omega) | (with_reducible exact fun _ _ => rfl))
  all_goals (first | omega | (simp only [decide_eq_true_eq, decide_eq_false_iff_not] at *; omega) | (simp only [List.length_append, List.length_cons, List.length_nil] <;> omega) | exact one_bv _ | exact one_sv _ | skip)
  repeat' (first | (with_reducible first | refine pa ?_ | refine pb ?_ | refine pc ?_ | refine nxt_n ?_ | refine nxt_e ?_ | refine nxt_r ?_ | refine blk_n ?_ | refine blk_r ?_ | refine blk_hit ?_ | refine blk_miss (by rfl) ?_ | refine pd ?_ | refine pe ?_ | refine pf ?_ | refine pg ?_ | apply And.intro) | (refine hK _ ?_; first | clear hK K hn0 hcl hΘ Θ | clear hK K hΘ Θ) | (with_reducible first | refine cw1 ?_ | refine cw2 ?_ | exact cw3 | exact cw4) | ((with_reducible first | refine cw5 (fun gg => ?_) | refine cw6 (fun gg => ?_) | refine cw7 (fun gg => ?_)); try simp only [gg]) | refine cs1 hG rfl ?_ ?_ | refine cs2 hG rfl ?_ ?_ | ((fail_if_success (with_reducible first | show WC _ _ _ (.region 4 _ _) _ _ | show WC _ _ _ (.seq (.region 4 _ _) _) _ _)); (first | refine kf (fun M n => Digest_sp root ix hix t ht M n) rfl (by decide) (clW_le (by rfl)) hΘ hcl hn0 ?_ | refine kf (fun M n => hM1 M n) rfl (by decide) (clW_le (by rfl)) hΘ hcl hn0 ?_ | refine rga hG (by kernel_rfl) (fun Θ K hΘ hK => ?_) | refine rgb hG (by kernel_rfl) (fun Θ K hΘ hK => ?_) | refine rgc (clW [(4, 4)] defCl) hG (by kernel_rfl) (clW_le (by rfl)) (by rfl) (by kernel_rfl) (fun Θ K hΘ hcl hn0 hK => ?_) | refine rgd (clW [(4, 4)] defCl) hG (by kernel_rfl) (clW_le (by rfl)) (by rfl) (by kernel_rfl) (fun Θ K hΘ hcl hn0 hK => ?_)); simp (maxSteps := 2000000) only [go_sem, seval, reduceCtorEq, List.append_eq, f6]) | ((first | refine Post.splitN (fun gg => ?_) (fun gg => ?_) | refine PostB.splitN (fun gg => ?_) (fun gg => ?_) | refine Post.split (fun gg => ?_) (fun gg => ?_) | refine PostB.split (fun gg => ?_) (fun gg => ?_)) <;> simp (maxSteps := 2000000) only [go_sem, seval, reduceCtorEq, List.append_eq, gg, f6]) | (refine finR (by simp only [go_sem, seval, reduceCtorEq, List.append_eq, f6]; exact rfl) ?_; simp only [go_sem, seval, reduceCtorEq, List.append_eq, f6]) | refine updL hM ?_ (by omega) | (with_reducible exact fun _ _ => rfl))
  all_goals (first | omega | (simp only [decide_eq_true_eq, decide_eq_false_iff_not] at *; omega) | (simp only [List.length_append, List.length_cons, List.length_nil] <;> omega) | exact one_bv _ | exact one_sv _ | skip)
  repeat' (first | (with_reducible first | refine pa ?_ | refine pb ?_ | refine pc ?_ | refine nxt_n ?_ | refine nxt_e ?_ | refine nxt_r ?_ | refine blk_n ?_ | refine blk_r ?_ | refine blk_hit ?_ | refine blk_miss (by rfl) ?_ | refine pd ?_ | refine pe ?_ | refine pf ?_ | refine pg ?_ | apply And.intro) | (refine hK _ ?_; first | clear hK K hn0 hcl hΘ Θ | clear hK K hΘ Θ) | (with_reducible first | refine cw1 ?_ | refine cw2 ?_ | exact cw3 | exact cw4) | ((with_reducible first | refine cw5 (fun gg => ?_) | refine cw6 (fun gg => ?_) | refine cw7 (fun gg => ?_)); try simp only [gg]) | refine cs1 hG rfl ?_ ?_ | refine cs2 hG rfl ?_ ?_ | ((first | refine rga hG (by kernel_rfl) (fun Θ K hΘ hK => ?_) | refine rgb hG (by kernel_rfl) (fun Θ K hΘ hK => ?_) | refine rgc defCl hG (by kernel_rfl) cl0 (by rfl) (by kernel_rfl) (fun Θ K hΘ hcl hn0 hK => ?_) | refine rgd defCl hG (by kernel_rfl) cl0 (by rfl) (by kernel_rfl) (fun Θ K hΘ hcl hn0 hK => ?_)); simp (maxSteps := 2000000) only [go_sem, seval, reduceCtorEq, List.append_eq]) | ((first | refine Post.splitN (fun gg => ?_) (fun gg => ?_) | refine PostB.splitN (fun gg => ?_) (fun gg => ?_) | refine Post.split (fun gg => ?_) (fun gg => ?_) | refine PostB.split (fun gg => ?_) (fun gg => ?_)) <;> simp (maxSteps := 2000000) only [go_sem, seval, reduceCtorEq, List.append_eq, gg]) | (refine finR (by simp only [go_sem, seval, reduceCtorEq, List.append_eq]; exact rfl) ?_; simp only [go_sem, seval, reduceCtorEq, List.append_eq]) | refine updL hM ?_ (by omega) | (with_reducible exact fun _ _ => rfl))
  all_goals (first | omega | (simp only [decide_eq_true_eq, decide_eq_false_iff_not] at *; omega) | (simp only [List.length_append, List.length_cons, List.length_nil] <;> omega) | exact one_bv _ | exact one_sv _ | skip)
  refine WC.loopA (fun i : Nat => ⟨[(55, .flat (.int .i64 i)), (54, .flat (.int .i64 h)), (11, .sl true 16 i (esC (pathS g i))), (9, .bp (mn + 1) 0), (4, .bp mn 0), (3, .flat (.string (bs g))), (1, .flat (.int .i64 ix))], upd (upd M mn (some (Nd.c ⟨root, h⟩))) (mn + 1) (some (bv L.1)), mn + 1 + 1⟩) (fun i => h - i) (fun i => i ≤ h) 0 (by omega) (sbs (by simp (maxSteps := 2000000) only [go_sem, seval, reduceCtorEq, List.append_eq, pathS_0, esC_nil]) rfl rfl) ?_
  intro i hi
  by_cases hih : i < h
  · have g1 : ((i : Int) < (h : Int)) = True := eq_true (by omega)
    have v2 := wi1 (n := i) (by omega)
    have v3 : IntKind.i64.wrap (16 * (i : Int)) = ((16 * i : Nat) : Int) := by rw [wi (by omega) (by omega)]; omega
    have v4 : IntKind.i64.wrap (560 + ((16 * i : Nat) : Int)) = ((560 + 16 * i : Nat) : Int) := by rw [wi (by omega) (by omega)]; omega
    have v5 : IntKind.i64.wrap (((560 + 16 * i : Nat) : Int) + 16) = ((560 + 16 * i + 16 : Nat) : Int) := by rw [wi (by omega) (by omega)]; omega
    have hpt : List.drop (560 + 16 * i) (List.take (560 + 16 * i + 16) g) = (partE g (35 + i)).1 := by
      rw [List.drop_take, show 560 + 16 * i + 16 - (560 + 16 * i) = 16 by omega, show 560 + 16 * i = 16 * (35 + i) by omega]; exact partE_take g (35 + i) (by omega)
    have hpl := (partE g (35 + i)).2
    have hpk : (bv (partE g (35 + i)).1).take 16 = bv (partE g (35 + i)).1 := tk16 _
    have hA := esC_app (pathS g i) (partE g (35 + i))
    rw [← pathS_succ] at hA
    have hl := pathS_len g i
    repeat' (first | (with_reducible first | refine pa ?_ | refine pb ?_ | refine pc ?_ | refine nxt_n ?_ | refine nxt_e ?_ | refine nxt_r ?_ | refine blk_n ?_ | refine blk_r ?_ | refine blk_hit ?_ | refine blk_miss (by rfl) ?_ | refine pd ?_ | refine pe ?_ | refine pf ?_ | refine pg ?_ | apply And.intro) | (refine hK _ ?_; first | clear hK K hn0 hcl hΘ Θ | clear hK K hΘ Θ) | (with_reducible first | refine cw1 ?_ | refine cw2 ?_ | exact cw3 | exact cw4) | ((with_reducible first | refine cw5 (fun gg => ?_) | refine cw6 (fun gg => ?_) | refine cw7 (fun gg => ?_)); try simp only [gg]) | refine cs1 hG rfl ?_ ?_ | refine cs2 hG rfl ?_ ?_ | ((first | refine rga hG (by kernel_rfl) (fun Θ K hΘ hK => ?_) | refine rgb hG (by kernel_rfl) (fun Θ K hΘ hK => ?_) | refine rgc defCl hG (by kernel_rfl) cl0 (by rfl) (by kernel_rfl) (fun Θ K hΘ hcl hn0 hK => ?_) | refine rgd defCl hG (by kernel_rfl) cl0 (by rfl) (by kernel_rfl) (fun Θ K hΘ hcl hn0 hK => ?_)); simp (maxSteps := 2000000) only [go_sem, seval, reduceCtorEq, List.append_eq, g1, v2, v3, v4, v5, hpt, hpl, hpk, hA, hl]) | ((first | refine Post.splitN (fun gg => ?_) (fun gg => ?_) | refine PostB.splitN (fun gg => ?_) (fun gg => ?_) | refine Post.split (fun gg => ?_) (fun gg => ?_) | refine PostB.split (fun gg => ?_) (fun gg => ?_)) <;> simp (maxSteps := 2000000) only [go_sem, seval, reduceCtorEq, List.append_eq, gg, g1, v2, v3, v4, v5, hpt, hpl, hpk, hA, hl]) | (refine finR (by simp only [go_sem, seval, reduceCtorEq, List.append_eq, g1, v2, v3, v4, v5, hpt, hpl, hpk, hA, hl]; exact rfl) ?_; simp only [go_sem, seval, reduceCtorEq, List.append_eq, g1, v2, v3, v4, v5, hpt, hpl, hpk, hA, hl]) | refine updL hM ?_ (by omega) | (with_reducible exact fun _ _ => rfl))
    all_goals (first | omega | (simp only [decide_eq_true_eq, decide_eq_false_iff_not] at *; omega) | (simp only [List.length_append, List.length_cons, List.length_nil] <;> omega) | exact one_bv _ | exact one_sv _ | skip)
    exact ⟨i + 1, by omega, by omega, (sbs (by simp (maxSteps := 2000000) only [go_sem, seval, reduceCtorEq, List.append_eq]) rfl rfl)⟩
  · have g1 : ((i : Int) < (h : Int)) = False := eq_false (by omega)
    have e : i = h := by omega
    subst e
    have hl := pathS_len g i
    have hC := Climb_sp L ix hix (pathS g i) (by omega)
    rw [hl] at hC
    repeat' (first | (with_reducible first | refine pa ?_ | refine pb ?_ | refine pc ?_ | refine nxt_n ?_ | refine nxt_e ?_ | refine nxt_r ?_ | refine blk_n ?_ | refine blk_r ?_ | refine blk_hit ?_ | refine blk_miss (by rfl) ?_ | refine pd ?_ | refine pe ?_ | refine pf ?_ | refine pg ?_ | apply And.intro) | (refine hK _ ?_; first | clear hK K hn0 hcl hΘ Θ | clear hK K hΘ Θ) | (with_reducible first | refine cw1 ?_ | refine cw2 ?_ | exact cw3 | exact cw4) | ((with_reducible first | refine cw5 (fun gg => ?_) | refine cw6 (fun gg => ?_) | refine cw7 (fun gg => ?_)); try simp only [gg]) | refine cs1 hG rfl ?_ ?_ | refine cs2 hG rfl ?_ ?_ | ((first | refine kf (fun M n => hC M n) rfl (by decide) cl0 hΘ hcl hn0 ?_ | refine rga hG (by kernel_rfl) (fun Θ K hΘ hK => ?_) | refine rgb hG (by kernel_rfl) (fun Θ K hΘ hK => ?_) | refine rgc defCl hG (by kernel_rfl) cl0 (by rfl) (by kernel_rfl) (fun Θ K hΘ hcl hn0 hK => ?_) | refine rgd defCl hG (by kernel_rfl) cl0 (by rfl) (by kernel_rfl) (fun Θ K hΘ hcl hn0 hK => ?_)); simp (maxSteps := 2000000) only [go_sem, seval, reduceCtorEq, List.append_eq, g1, hl, hLx, hLt]) | ((first | refine Post.splitN (fun gg => ?_) (fun gg => ?_) | refine PostB.splitN (fun gg => ?_) (fun gg => ?_) | refine Post.split (fun gg => ?_) (fun gg => ?_) | refine PostB.split (fun gg => ?_) (fun gg => ?_)) <;> simp (maxSteps := 2000000) only [go_sem, seval, reduceCtorEq, List.append_eq, gg, g1, hl, hLx, hLt]) | (refine finR (by simp only [go_sem, seval, reduceCtorEq, List.append_eq, g1, hl, hLx, hLt]; exact rfl) ?_; simp only [go_sem, seval, reduceCtorEq, List.append_eq, g1, hl, hLx, hLt]) | refine updL hM ?_ (by omega) | (with_reducible exact fun _ _ => rfl))
    all_goals (first | omega | (simp only [decide_eq_true_eq, decide_eq_false_iff_not] at *; omega) | (simp only [List.length_append, List.length_cons, List.length_nil] <;> omega) | exact one_bv _ | exact one_sv _ | skip)
end Go.VL

set_option linter.unusedVariables false
set_option linter.unusedSimpArgs false
set_option maxRecDepth 100000
set_option maxHeartbeats 8000000
open Go.RowKit
namespace Go.VL
open Go.Proofs
theorem CLink_sp (p : Id32) (q : Int) (hq : inR q) (e : Ent) (he : e.ok) : Rt 48 [.agg (bv p.1), .flat (.int .i64 q), .agg e.c] (.agg (bv (linkE p q e).1)) := by
  have n1 : q < 9223372036854775808 := by have := hq.2; omega
  have ht := link_tot p q hq he
  have tb := take_bv32 p
  have hp := p.2
  have tl := take_bv32 (linkE p q e)
  have hS : Rt 63 [.flat (.string (bs [108, 105, 110, 107])), .sl false 1 3 (sv [p.1, numB q.toNat, e.text])] (.agg (bv (linkE p q e).1)) := Sum_sp [108, 105, 110, 107] (linkP p q e) (by simp) (by omega) (by simp [linkP])
  generalize linkE p q e = L at *
  intro M mn
  refine fnL (C := kc 15 [] []) (rs := [.cell 6 52]) envOk Tryd.func48 (by kernel_rfl) rfl rfl rfl rfl rfl rfl (lowAgg (FlatS.bv _)) ?_
  intro E hG hM
  repeat' (first | (with_reducible first | refine pa ?_ | refine pb ?_ | refine pc ?_ | refine nxt_n ?_ | refine nxt_e ?_ | refine nxt_r ?_ | refine blk_n ?_ | refine blk_r ?_ | refine blk_hit ?_ | refine blk_miss (by rfl) ?_ | refine pd ?_ | refine pe ?_ | refine pf ?_ | refine pg ?_ | apply And.intro) | (refine hK _ ?_; first | clear hK K hn0 hcl hΘ Θ | clear hK K hΘ Θ) | (with_reducible first | refine cw1 ?_ | refine cw2 ?_ | exact cw3 | exact cw4) | ((with_reducible first | refine cw5 (fun gg => ?_) | refine cw6 (fun gg => ?_) | refine cw7 (fun gg => ?_)); try simp only [gg]) | refine cs1 hG rfl ?_ ?_ | refine cs2 hG rfl ?_ ?_ | ((first | refine kf (fun M n => Num_sp q n1 M n) rfl (by decide) cl0 hΘ hcl hn0 ?_ | refine kf (fun M n => EText_sp e he M n) rfl (by decide) cl0 hΘ hcl hn0 ?_ | refine kf (fun M n => hS M n) rfl (by decide) cl0 hΘ hcl hn0 ?_ | refine rga hG (by kernel_rfl) (fun Θ K hΘ hK => ?_) | refine rgb hG (by kernel_rfl) (fun Θ K hΘ hK => ?_) | refine rgc defCl hG (by kernel_rfl) cl0 (by rfl) (by kernel_rfl) (fun Θ K hΘ hcl hn0 hK => ?_) | refine rgd defCl hG (by kernel_rfl) cl0 (by rfl) (by kernel_rfl) (fun Θ K hΘ hcl hn0 hK => ?_)); simp (maxSteps := 2000000) only [go_sem, seval, reduceCtorEq, tb, tl, hp]) | ((first | refine Post.splitN (fun gg => ?_) (fun gg => ?_) | refine PostB.splitN (fun gg => ?_) (fun gg => ?_) | refine Post.split (fun gg => ?_) (fun gg => ?_) | refine PostB.split (fun gg => ?_) (fun gg => ?_)) <;> simp (maxSteps := 2000000) only [go_sem, seval, reduceCtorEq, gg, tb, tl, hp]) | (refine finR (by simp only [go_sem, seval, reduceCtorEq, tb, tl, hp]; exact rfl) ?_; simp only [go_sem, seval, reduceCtorEq, tb, tl, hp]) | refine updL hM ?_ (by omega) | (with_reducible exact fun _ _ => rfl))
  all_goals (first | omega | (simp only [decide_eq_true_eq, decide_eq_false_iff_not] at *; omega) | (simp only [List.length_append, List.length_cons, List.length_nil] <;> omega) | exact one_bv _ | exact one_sv _ | skip)
theorem CWord_sp (z q : Int) (hn : inR z) (hq : inR q) (h : Id32) : Rt 36 [.flat (.int .i64 z), .flat (.int .i64 q), .agg (bv h.1)] (.flat (.string (bs (wordB z q h)))) := by
  have n1 : z < 9223372036854775808 := by have := hn.2; omega
  have n2 : q < 9223372036854775808 := by have := hq.2; omega
  have ht := word_tot z q h hn hq
  have tb := take_bv32 h
  have hp := h.2
  have hL : Rt 77 [.sl false 1 4 (sv [[119, 111, 114, 100], numB z.toNat, numB q.toNat, h.1])] (.flat (.string (bs (wordB z q h)))) := List_sp (wordP z q h) (by omega) (by omega)
  intro M mn
  refine fnL (C := kc 15 [] []) (rs := [.tmp 6]) envOk Tryd.func36 (by kernel_rfl) rfl rfl rfl rfl rfl rfl (Low.flat _) ?_
  intro E hG hM
  repeat' (first | (with_reducible first | refine pa ?_ | refine pb ?_ | refine pc ?_ | refine nxt_n ?_ | refine nxt_e ?_ | refine nxt_r ?_ | refine blk_n ?_ | refine blk_r ?_ | refine blk_hit ?_ | refine blk_miss (by rfl) ?_ | refine pd ?_ | refine pe ?_ | refine pf ?_ | refine pg ?_ | apply And.intro) | (refine hK _ ?_; first | clear hK K hn0 hcl hΘ Θ | clear hK K hΘ Θ) | (with_reducible first | refine cw1 ?_ | refine cw2 ?_ | exact cw3 | exact cw4) | ((with_reducible first | refine cw5 (fun gg => ?_) | refine cw6 (fun gg => ?_) | refine cw7 (fun gg => ?_)); try simp only [gg]) | refine cs1 hG rfl ?_ ?_ | refine cs2 hG rfl ?_ ?_ | ((first | refine kf (fun M n => Num_sp z n1 M n) rfl (by decide) cl0 hΘ hcl hn0 ?_ | refine kf (fun M n => Num_sp q n2 M n) rfl (by decide) cl0 hΘ hcl hn0 ?_ | refine kf (fun M n => hL M n) rfl (by decide) cl0 hΘ hcl hn0 ?_ | refine rga hG (by kernel_rfl) (fun Θ K hΘ hK => ?_) | refine rgb hG (by kernel_rfl) (fun Θ K hΘ hK => ?_) | refine rgc defCl hG (by kernel_rfl) cl0 (by rfl) (by kernel_rfl) (fun Θ K hΘ hcl hn0 hK => ?_) | refine rgd defCl hG (by kernel_rfl) cl0 (by rfl) (by kernel_rfl) (fun Θ K hΘ hcl hn0 hK => ?_)); simp (maxSteps := 2000000) only [go_sem, seval, reduceCtorEq, tb, hp]) | ((first | refine Post.splitN (fun gg => ?_) (fun gg => ?_) | refine PostB.splitN (fun gg => ?_) (fun gg => ?_) | refine Post.split (fun gg => ?_) (fun gg => ?_) | refine PostB.split (fun gg => ?_) (fun gg => ?_)) <;> simp (maxSteps := 2000000) only [go_sem, seval, reduceCtorEq, gg, tb, hp]) | (refine finR (by simp only [go_sem, seval, reduceCtorEq, tb, hp]; exact rfl) ?_; simp only [go_sem, seval, reduceCtorEq, tb, hp]) | refine updL hM ?_ (by omega) | (with_reducible exact fun _ _ => rfl))
  all_goals (first | omega | (simp only [decide_eq_true_eq, decide_eq_false_iff_not] at *; omega) | (simp only [List.length_append, List.length_cons, List.length_nil] <;> omega) | exact one_bv _ | exact one_sv _ | skip)
theorem ids_app (l : List Id32) (x : Id32) : idsC l ++ bv x.1 = idsC (l ++ [x]) := by simp [idsC]
theorem ids_len (l : List Id32) : (idsC l).length = l.length * 32 := by
  unfold idsC
  rw [flatten_len 32 _ (fun c hc => by obtain ⟨x, _, rfl⟩ := List.mem_map.1 hc; rw [bv_length]; exact x.2), List.length_map]
theorem CWalk_sp (p : Id32) (q : Int) (l : List Ent) (hok : ∀ e ∈ l, e.ok) (hl : l.length ≤ 1000000) (hq : inR q) (hq2 : q ≤ 9223372036853000000) : Rt 31 [.agg (bv p.1), .flat (.int .i64 q), .sl false 73 l.length (Ent.lC l)] (.sl false 32 l.length (idsC (walkL p q l))) := by
  have q1 := hq.1
  have tbp : ∀ x : Id32, (bv x.1).take 32 = bv x.1 := take_bv32
  have hp : ∀ x : Id32, x.1.length = 32 := fun x => x.2
  intro M mn
  refine fnLS (C := kc 29 [23] []) (rs := [.tmp 6]) envOk Tryd.func31 (by kernel_rfl) rfl rfl rfl rfl rfl rfl (lowSl (idsC_flat _)) ?_
  intro E hG hM
  repeat' (first | (with_reducible first | refine pa ?_ | refine pb ?_ | refine pc ?_ | refine nxt_n ?_ | refine nxt_e ?_ | refine nxt_r ?_ | refine blk_n ?_ | refine blk_r ?_ | refine blk_hit ?_ | refine blk_miss (by rfl) ?_ | refine pd ?_ | refine pe ?_ | refine pf ?_ | refine pg ?_ | apply And.intro) | (refine hK _ ?_; clear hK K hΘ Θ) | (with_reducible first | refine cw1 ?_ | refine cw2 ?_ | exact cw3 | exact cw4) | ((with_reducible first | refine cw5 (fun gg => ?_) | refine cw6 (fun gg => ?_) | refine cw7 (fun gg => ?_)); try simp only [gg]) | refine cs1 hG rfl ?_ ?_ | refine cs2 hG rfl ?_ ?_ | ((first | refine rga hG (by kernel_rfl) (fun Θ K hΘ hK => ?_) | refine rgb hG (by kernel_rfl) (fun Θ K hΘ hK => ?_)); simp (maxSteps := 2000000) only [go_sem, seval, reduceCtorEq, List.append_eq]) | ((first | refine Post.splitN (fun gg => ?_) (fun gg => ?_) | refine Post.split (fun gg => ?_) (fun gg => ?_)) <;> simp (maxSteps := 2000000) only [go_sem, seval, reduceCtorEq, List.append_eq, gg]) | (refine finR (by simp only [go_sem, seval, reduceCtorEq, List.append_eq]; exact rfl) ?_; simp only [go_sem, seval, reduceCtorEq, List.append_eq]) | refine updL hM ?_ (by omega) | (with_reducible exact fun _ _ => rfl))
  all_goals (first | omega | (simp only [decide_eq_true_eq, decide_eq_false_iff_not] at *; omega) | (simp only [List.length_append, List.length_cons, List.length_nil] <;> omega) | exact one_bv _ | exact one_sv _ | skip)
  refine WC.loopA (fun s : Nat × Mem × Nat => ⟨[(12, .flat (.int .i64 s.1)), (11, .flat (.int .i64 l.length)), (10, .sl false 73 l.length (Ent.lC l)), (7, .sl true 32 s.1 (idsC (walkL p q (l.take s.1)))), (3, .bp mn 0), (1, .flat (.int .i64 q))], s.2.1, s.2.2⟩) (fun s => l.length - s.1) (fun s => s.1 ≤ l.length ∧ (∀ b, M b ≠ none → s.2.1 b = M b) ∧ mn + 1 ≤ s.2.2 ∧ s.2.1 mn = some (bv (lastL p q (l.take s.1)).1)) (0, upd M mn (some (bv p.1)), mn + 1) ⟨by simp only; omega, updL hM (fun _ _ => rfl) (Nat.le_refl _), Nat.le_refl _, by simp [upd, lastL_nil]⟩ (sbs (by simp (maxSteps := 2000000) only [go_sem, seval, reduceCtorEq, List.append_eq, List.take_zero, walkL, idsC_nil]) rfl rfl) ?_
  rintro ⟨i, μ, n⟩ ⟨hi, hk, hn, hb⟩
  simp only at hi hk hn hb ⊢
  by_cases h : i < l.length
  · have f1 : ((i : Int) < (l.length : Int)) = True := eq_true (by omega)
    have g1 : (i < l.length) = True := eq_true h
    have v1 := wi1 (n := i) (by omega)
    have v2 : IntKind.i64.wrap (q + (i : Int)) = q + (i : Int) := wi (by omega) (by omega)
    have he : (l.getD i ent0).ok := hok _ (by rw [List.getD_eq_getElem?_getD, List.getElem?_eq_getElem h]; exact List.getElem_mem _)
    have hgt := Ent.l_get l ent0 i h
    have hll := Ent.l_len l
    have ht1 := Ent.tk (l.getD i ent0)
    have g2 : (i * 73 + 73 ≤ l.length * 73) = True := eq_true (by omega)
    have hL := CLink_sp (lastL p q (l.take i)) (q + i) (by unfold inR; omega) (l.getD i ent0) he
    have hw := walkL_take l p q i ent0 h
    have hla := lastL_take l p q i ent0 h
    have hA := ids_app (walkL p q (l.take i)) (linkE (lastL p q (l.take i)) (q + i) (l.getD i ent0))
    rw [← hw] at hA
    have hil := ids_len (walkL p q (l.take i))
    rw [walkL_len, List.length_take, Nat.min_eq_left (by omega)] at hil
    have hnm : n ≠ mn := by omega
    have u1 : ∀ (A : Mem) z, upd A n z mn = A mn := fun A z => upd_ne _ _ (by omega)
    have u2 : ∀ (A : Mem) z, upd A mn z n = A n := fun A z => upd_ne _ _ (by omega)
    rw [← hla] at hL hA
    repeat' (first | (with_reducible first | refine pa ?_ | refine pb ?_ | refine pc ?_ | refine nxt_n ?_ | refine nxt_e ?_ | refine nxt_r ?_ | refine blk_n ?_ | refine blk_r ?_ | refine blk_hit ?_ | refine blk_miss (by rfl) ?_ | refine pd ?_ | refine pe ?_ | refine pf ?_ | refine pg ?_ | apply And.intro) | (refine hK _ ?_; clear hK K hΘ Θ) | (with_reducible first | refine cw1 ?_ | refine cw2 ?_ | exact cw3 | exact cw4) | ((with_reducible first | refine cw5 (fun gg => ?_) | refine cw6 (fun gg => ?_) | refine cw7 (fun gg => ?_)); try simp only [gg]) | refine cs1 hG rfl ?_ ?_ | refine cs2 hG rfl ?_ ?_ | ((first | refine kg (hL _ _) rfl hΘ ?_ | refine rga hG (by kernel_rfl) (fun Θ K hΘ hK => ?_) | refine rgb hG (by kernel_rfl) (fun Θ K hΘ hK => ?_)); simp (maxSteps := 2000000) only [go_sem, seval, reduceCtorEq, List.append_eq, f1, g1, v1, v2, hgt, hll, ht1, g2, hb, u1, u2, tbp, hp, hA, hil]) | ((first | refine Post.splitN (fun gg => ?_) (fun gg => ?_) | refine Post.split (fun gg => ?_) (fun gg => ?_)) <;> simp (maxSteps := 2000000) only [go_sem, seval, reduceCtorEq, List.append_eq, gg, f1, g1, v1, v2, hgt, hll, ht1, g2, hb, u1, u2, tbp, hp, hA, hil]) | (refine finR (by simp only [go_sem, seval, reduceCtorEq, List.append_eq, f1, g1, v1, v2, hgt, hll, ht1, g2, hb, u1, u2, tbp, hp, hA, hil]; exact rfl) ?_; simp only [go_sem, seval, reduceCtorEq, List.append_eq, f1, g1, v1, v2, hgt, hll, ht1, g2, hb, u1, u2, tbp, hp, hA, hil]) | refine updL hM ?_ (by omega) | (with_reducible exact fun _ _ => rfl))
    all_goals (first | omega | (simp only [decide_eq_true_eq, decide_eq_false_iff_not] at *; omega) | (simp only [List.length_append, List.length_cons, List.length_nil] <;> omega) | exact one_bv _ | exact one_sv _ | skip)
    refine ⟨(i + 1, upd (upd μ n (some (l.getD i ent0).c)) mn (some (bv (lastL p q (l.take (i + 1))).1)), n + 1), ⟨by simp only; omega, fun b hb2 => ?_, by simp only; omega, upd_same _ _ _⟩, by simp only; omega, (sbs (by simp (maxSteps := 2000000) only [go_sem, seval, reduceCtorEq, List.append_eq]) rfl rfl)⟩
    have hlt : b < mn := Nat.lt_of_not_le fun k => hb2 (hM b k)
    simp only
    rw [upd_ne _ _ (by omega), upd_ne _ _ (by omega)]
    exact hk b hb2
  · have f1 : ((i : Int) < (l.length : Int)) = False := eq_false (by omega)
    have e1 : i = l.length := by omega
    subst e1
    rw [List.take_length]
    repeat' (first | (with_reducible first | refine pa ?_ | refine pb ?_ | refine pc ?_ | refine nxt_n ?_ | refine nxt_e ?_ | refine nxt_r ?_ | refine blk_n ?_ | refine blk_r ?_ | refine blk_hit ?_ | refine blk_miss (by rfl) ?_ | refine pd ?_ | refine pe ?_ | refine pf ?_ | refine pg ?_ | apply And.intro) | (refine hK _ ?_; clear hK K hΘ Θ) | (with_reducible first | refine cw1 ?_ | refine cw2 ?_ | exact cw3 | exact cw4) | ((with_reducible first | refine cw5 (fun gg => ?_) | refine cw6 (fun gg => ?_) | refine cw7 (fun gg => ?_)); try simp only [gg]) | refine cs1 hG rfl ?_ ?_ | refine cs2 hG rfl ?_ ?_ | ((first | refine rga hG (by kernel_rfl) (fun Θ K hΘ hK => ?_) | refine rgb hG (by kernel_rfl) (fun Θ K hΘ hK => ?_)); simp (maxSteps := 2000000) only [go_sem, seval, reduceCtorEq, List.append_eq, f1]) | ((first | refine Post.splitN (fun gg => ?_) (fun gg => ?_) | refine Post.split (fun gg => ?_) (fun gg => ?_)) <;> simp (maxSteps := 2000000) only [go_sem, seval, reduceCtorEq, List.append_eq, gg, f1]) | (refine finR (by simp only [go_sem, seval, reduceCtorEq, List.append_eq, f1]; exact rfl) ?_; simp only [go_sem, seval, reduceCtorEq, List.append_eq, f1]) | refine updL hM ?_ (by omega) | (with_reducible exact fun _ _ => rfl))
    all_goals (first | omega | (simp only [decide_eq_true_eq, decide_eq_false_iff_not] at *; omega) | (simp only [List.length_append, List.length_cons, List.length_nil] <;> omega) | exact one_bv _ | exact one_sv _ | skip)
theorem CCheck_sp (a : Au) (ha : a.ok) (l : List Nd) (hok : ∀ n ∈ l, inR n.height) (hl : l.length ≤ 1000000) : Rt 34 [.agg a.c, .sl false 17 l.length (Nd.lC l)] (.flat (.bool (chkE a l))) := by
  obtain ⟨⟨a1, a2⟩, ⟨b1, b2⟩, hs⟩ := id ha
  by_cases h1 : 0 ≤ a.node
  case neg =>
    have f1 : (a.node ≥ 0) = False := eq_false (by omega)
    rw [chkE_no (fun q => h1 q.1)]
    intro M mn
    refine fnL (C := kc 40 [] []) (rs := [.tmp 4]) envOk Tryd.func34 (by kernel_rfl) rfl rfl rfl rfl rfl rfl (Low.flat _) ?_
    intro E hG hM
    repeat' (first | (with_reducible first | refine pa ?_ | refine pb ?_ | refine pc ?_ | refine nxt_n ?_ | refine nxt_e ?_ | refine nxt_r ?_ | refine blk_n ?_ | refine blk_r ?_ | refine blk_hit ?_ | refine blk_miss (by rfl) ?_ | refine pd ?_ | refine pe ?_ | refine pf ?_ | refine pg ?_ | apply And.intro) | (refine hK _ ?_; first | clear hK K hn0 hcl hΘ Θ | clear hK K hΘ Θ) | (with_reducible first | refine cw1 ?_ | refine cw2 ?_ | exact cw3 | exact cw4) | ((with_reducible first | refine cw5 (fun gg => ?_) | refine cw6 (fun gg => ?_) | refine cw7 (fun gg => ?_)); try simp only [gg]) | refine cs1 hG rfl ?_ ?_ | refine cs2 hG rfl ?_ ?_ | ((first | refine rga hG (by kernel_rfl) (fun Θ K hΘ hK => ?_) | refine rgb hG (by kernel_rfl) (fun Θ K hΘ hK => ?_) | refine rgc defCl hG (by kernel_rfl) cl0 (by rfl) (by kernel_rfl) (fun Θ K hΘ hcl hn0 hK => ?_) | refine rgd defCl hG (by kernel_rfl) cl0 (by rfl) (by kernel_rfl) (fun Θ K hΘ hcl hn0 hK => ?_)); simp (maxSteps := 2000000) only [go_sem, seval, reduceCtorEq, f1]) | ((first | refine Post.splitN (fun gg => ?_) (fun gg => ?_) | refine PostB.splitN (fun gg => ?_) (fun gg => ?_) | refine Post.split (fun gg => ?_) (fun gg => ?_) | refine PostB.split (fun gg => ?_) (fun gg => ?_)) <;> simp (maxSteps := 2000000) only [go_sem, seval, reduceCtorEq, gg, f1]) | (refine finR (by simp only [go_sem, seval, reduceCtorEq, f1]; exact rfl) ?_; simp only [go_sem, seval, reduceCtorEq, f1]) | refine updL hM ?_ (by omega) | (with_reducible exact fun _ _ => rfl))
    all_goals (first | omega | (simp only [decide_eq_true_eq, decide_eq_false_iff_not] at *; omega) | (simp only [List.length_append, List.length_cons, List.length_nil] <;> omega) | exact one_bv _ | exact one_sv _ | skip)
  have f1 : (a.node ≥ 0) = True := eq_true h1
  by_cases h2 : a.node < (l.length : Int)
  case neg =>
    have f2 := eq_false h2
    rw [chkE_no (fun q => h2 q.2.1)]
    intro M mn
    refine fnL (C := kc 40 [] []) (rs := [.tmp 4]) envOk Tryd.func34 (by kernel_rfl) rfl rfl rfl rfl rfl rfl (Low.flat _) ?_
    intro E hG hM
    repeat' (first | (with_reducible first | refine pa ?_ | refine pb ?_ | refine pc ?_ | refine nxt_n ?_ | refine nxt_e ?_ | refine nxt_r ?_ | refine blk_n ?_ | refine blk_r ?_ | refine blk_hit ?_ | refine blk_miss (by rfl) ?_ | refine pd ?_ | refine pe ?_ | refine pf ?_ | refine pg ?_ | apply And.intro) | (refine hK _ ?_; first | clear hK K hn0 hcl hΘ Θ | clear hK K hΘ Θ) | (with_reducible first | refine cw1 ?_ | refine cw2 ?_ | exact cw3 | exact cw4) | ((with_reducible first | refine cw5 (fun gg => ?_) | refine cw6 (fun gg => ?_) | refine cw7 (fun gg => ?_)); try simp only [gg]) | refine cs1 hG rfl ?_ ?_ | refine cs2 hG rfl ?_ ?_ | ((first | refine rga hG (by kernel_rfl) (fun Θ K hΘ hK => ?_) | refine rgb hG (by kernel_rfl) (fun Θ K hΘ hK => ?_) | refine rgc defCl hG (by kernel_rfl) cl0 (by rfl) (by kernel_rfl) (fun Θ K hΘ hcl hn0 hK => ?_) | refine rgd defCl hG (by kernel_rfl) cl0 (by rfl) (by kernel_rfl) (fun Θ K hΘ hcl hn0 hK => ?_)); simp (maxSteps := 2000000) only [go_sem, seval, reduceCtorEq, f1, f2]) | ((first | refine Post.splitN (fun gg => ?_) (fun gg => ?_) | refine PostB.splitN (fun gg => ?_) (fun gg => ?_) | refine Post.split (fun gg => ?_) (fun gg => ?_) | refine PostB.split (fun gg => ?_) (fun gg => ?_)) <;> simp (maxSteps := 2000000) only [go_sem, seval, reduceCtorEq, gg, f1, f2]) | (refine finR (by simp only [go_sem, seval, reduceCtorEq, f1, f2]; exact rfl) ?_; simp only [go_sem, seval, reduceCtorEq, f1, f2]) | refine updL hM ?_ (by omega) | (with_reducible exact fun _ _ => rfl))
    all_goals (first | omega | (simp only [decide_eq_true_eq, decide_eq_false_iff_not] at *; omega) | (simp only [List.length_append, List.length_cons, List.length_nil] <;> omega) | exact one_bv _ | exact one_sv _ | skip)
  have f2 := eq_true h2
  by_cases h3 : 0 < a.seq
  case neg =>
    have f3 : (a.seq > 0) = False := eq_false (by omega)
    rw [chkE_no (fun q => h3 q.2.2)]
    intro M mn
    refine fnL (C := kc 40 [] []) (rs := [.tmp 4]) envOk Tryd.func34 (by kernel_rfl) rfl rfl rfl rfl rfl rfl (Low.flat _) ?_
    intro E hG hM
    repeat' (first | (with_reducible first | refine pa ?_ | refine pb ?_ | refine pc ?_ | refine nxt_n ?_ | refine nxt_e ?_ | refine nxt_r ?_ | refine blk_n ?_ | refine blk_r ?_ | refine blk_hit ?_ | refine blk_miss (by rfl) ?_ | refine pd ?_ | refine pe ?_ | refine pf ?_ | refine pg ?_ | apply And.intro) | (refine hK _ ?_; first | clear hK K hn0 hcl hΘ Θ | clear hK K hΘ Θ) | (with_reducible first | refine cw1 ?_ | refine cw2 ?_ | exact cw3 | exact cw4) | ((with_reducible first | refine cw5 (fun gg => ?_) | refine cw6 (fun gg => ?_) | refine cw7 (fun gg => ?_)); try simp only [gg]) | refine cs1 hG rfl ?_ ?_ | refine cs2 hG rfl ?_ ?_ | ((first | refine rga hG (by kernel_rfl) (fun Θ K hΘ hK => ?_) | refine rgb hG (by kernel_rfl) (fun Θ K hΘ hK => ?_) | refine rgc defCl hG (by kernel_rfl) cl0 (by rfl) (by kernel_rfl) (fun Θ K hΘ hcl hn0 hK => ?_) | refine rgd defCl hG (by kernel_rfl) cl0 (by rfl) (by kernel_rfl) (fun Θ K hΘ hcl hn0 hK => ?_)); simp (maxSteps := 2000000) only [go_sem, seval, reduceCtorEq, f1, f2, f3]) | ((first | refine Post.splitN (fun gg => ?_) (fun gg => ?_) | refine PostB.splitN (fun gg => ?_) (fun gg => ?_) | refine Post.split (fun gg => ?_) (fun gg => ?_) | refine PostB.split (fun gg => ?_) (fun gg => ?_)) <;> simp (maxSteps := 2000000) only [go_sem, seval, reduceCtorEq, gg, f1, f2, f3]) | (refine finR (by simp only [go_sem, seval, reduceCtorEq, f1, f2, f3]; exact rfl) ?_; simp only [go_sem, seval, reduceCtorEq, f1, f2, f3]) | refine updL hM ?_ (by omega) | (with_reducible exact fun _ _ => rfl))
    all_goals (first | omega | (simp only [decide_eq_true_eq, decide_eq_false_iff_not] at *; omega) | (simp only [List.length_append, List.length_cons, List.length_nil] <;> omega) | exact one_bv _ | exact one_sv _ | skip)
  have f3 : (a.seq > 0) = True := eq_true (by omega)
  rw [chkE_yes ⟨h1, h2, h3⟩]
  obtain ⟨node, seq, hash, sig⟩ := a
  simp only at *
  obtain ⟨k, rfl⟩ : ∃ k : Nat, node = k := ⟨node.toNat, by omega⟩
  have hk : k < l.length := by omega
  have g1 : (k < l.length) = True := eq_true hk
  have hmem : l.getD k nd0 ∈ l := by rw [List.getD_eq_getElem?_getD, List.getElem?_eq_getElem hk]; exact List.getElem_mem _
  have hgt := Nd.l_get l nd0 k hk
  have hll := Nd.l_len l
  have ht1 := Nd.tk (l.getD k nd0)
  have g2 : (k * 17 + 17 ≤ l.length * 17) = True := eq_true (by omega)
  have v1 : IntKind.i64.wrap (seq - 1) = seq - 1 := wi (by omega) (by omega)
  have tb := take_bv32 hash
  have hwl := word_le k seq hash ⟨a1, a2⟩ ⟨b1, b2⟩
  have hW := CWord_sp k seq ⟨a1, a2⟩ ⟨b1, b2⟩ hash
  have hV := Verify_sp (l.getD k nd0) (hok _ hmem) (seq - 1) (by unfold inR; omega) (wordB k seq hash) (by omega) sig (by omega)
  rw [Int.toNat_natCast]
  intro M mn
  refine fnL (C := kc 40 [] []) (rs := [.tmp 4]) envOk Tryd.func34 (by kernel_rfl) rfl rfl rfl rfl rfl rfl (Low.flat _) ?_
  intro E hG hM
  repeat' (first | (with_reducible first | refine pa ?_ | refine pb ?_ | refine pc ?_ | refine nxt_n ?_ | refine nxt_e ?_ | refine nxt_r ?_ | refine blk_n ?_ | refine blk_r ?_ | refine blk_hit ?_ | refine blk_miss (by rfl) ?_ | refine pd ?_ | refine pe ?_ | refine pf ?_ | refine pg ?_ | apply And.intro) | (refine hK _ ?_; first | clear hK K hn0 hcl hΘ Θ | clear hK K hΘ Θ) | (with_reducible first | refine cw1 ?_ | refine cw2 ?_ | exact cw3 | exact cw4) | ((with_reducible first | refine cw5 (fun gg => ?_) | refine cw6 (fun gg => ?_) | refine cw7 (fun gg => ?_)); try simp only [gg]) | refine cs1 hG rfl ?_ ?_ | refine cs2 hG rfl ?_ ?_ | ((first | refine kf (fun M n => hW M n) rfl (by decide) cl0 hΘ hcl hn0 ?_ | refine kf (fun M n => hV M n) rfl (by decide) cl0 hΘ hcl hn0 ?_ | refine rga hG (by kernel_rfl) (fun Θ K hΘ hK => ?_) | refine rgb hG (by kernel_rfl) (fun Θ K hΘ hK => ?_) | refine rgc defCl hG (by kernel_rfl) cl0 (by rfl) (by kernel_rfl) (fun Θ K hΘ hcl hn0 hK => ?_) | refine rgd defCl hG (by kernel_rfl) cl0 (by rfl) (by kernel_rfl) (fun Θ K hΘ hcl hn0 hK => ?_)); simp (maxSteps := 2000000) only [go_sem, seval, reduceCtorEq, f1, f2, f3, g1, g2, hgt, hll, ht1, v1, tb]) | ((first | refine Post.splitN (fun gg => ?_) (fun gg => ?_) | refine PostB.splitN (fun gg => ?_) (fun gg => ?_) | refine Post.split (fun gg => ?_) (fun gg => ?_) | refine PostB.split (fun gg => ?_) (fun gg => ?_)) <;> simp (maxSteps := 2000000) only [go_sem, seval, reduceCtorEq, gg, f1, f2, f3, g1, g2, hgt, hll, ht1, v1, tb]) | (refine finR (by simp only [go_sem, seval, reduceCtorEq, f1, f2, f3, g1, g2, hgt, hll, ht1, v1, tb]; exact rfl) ?_; simp only [go_sem, seval, reduceCtorEq, f1, f2, f3, g1, g2, hgt, hll, ht1, v1, tb]) | refine updL hM ?_ (by omega) | (with_reducible exact fun _ _ => rfl))
  all_goals (first | omega | (simp only [decide_eq_true_eq, decide_eq_false_iff_not] at *; omega) | (simp only [List.length_append, List.length_cons, List.length_nil] <;> omega) | exact one_bv _ | exact one_sv _ | skip)
end Go.VL

set_option linter.unusedVariables false
set_option linter.unusedSimpArgs false
set_option maxRecDepth 100000
set_option maxHeartbeats 8000000
open Go.RowKit
namespace Go.VL
open Go.Proofs
theorem RNum_sp (n : Nat) (hn : n < 9223372036854775808) : Rt 67 [.flat (.int .i64 n)] (.flat (.string (bs (numB n)))) := by
  intro M mn
  refine fnL (C := kc 24 [] []) (rs := [.tmp 2]) envOk Tryd.func67 (by kernel_rfl) rfl rfl rfl rfl rfl rfl (Low.flat _) ?_
  intro E hG hM
  repeat' (first | (with_reducible first | refine pa ?_ | refine pb ?_ | refine pc ?_ | refine nxt_n ?_ | refine nxt_e ?_ | refine nxt_r ?_ | refine blk_n ?_ | refine blk_r ?_ | refine blk_hit ?_ | refine blk_miss (by rfl) ?_ | refine pd ?_ | refine pe ?_ | refine pf ?_ | refine pg ?_ | apply And.intro) | (refine hK _ ?_; clear hK K hΘ Θ) | (with_reducible first | refine cw1 ?_ | refine cw2 ?_ | exact cw3 | exact cw4) | ((with_reducible first | refine cw5 (fun gg => ?_) | refine cw6 (fun gg => ?_) | refine cw7 (fun gg => ?_)); try simp only [gg]) | refine cs1 hG rfl ?_ ?_ | refine cs2 hG rfl ?_ ?_ | ((first | refine rga hG (by kernel_rfl) (fun Θ K hΘ hK => ?_) | refine rgb hG (by kernel_rfl) (fun Θ K hΘ hK => ?_)); simp (maxSteps := 2000000) only [go_sem, seval, reduceCtorEq]) | ((first | refine Post.splitN (fun gg => ?_) (fun gg => ?_) | refine Post.split (fun gg => ?_) (fun gg => ?_)) <;> simp (maxSteps := 2000000) only [go_sem, seval, reduceCtorEq, gg]) | (refine finR (by simp only [go_sem, seval, reduceCtorEq]; exact rfl) ?_; simp only [go_sem, seval, reduceCtorEq]) | refine updL hM ?_ (by omega) | (with_reducible exact fun _ _ => rfl))
  all_goals (first | omega | (simp only [decide_eq_true_eq, decide_eq_false_iff_not] at *; omega) | (simp only [List.length_append, List.length_cons, List.length_nil] <;> omega) | exact one_bv _ | exact one_sv _ | skip)
  refine WC.loopA (fun q : Nat × List UInt8 => ⟨[(4, .flat (.int .i64 q.2.length)), (3, .flat (.string (bs q.2))), (0, .flat (.int .i64 q.1))], M, mn⟩) (fun q => q.1) (fun q => q.1 ≤ n ∧ (le q.1).reverse ++ q.2 = (le n).reverse) (n, []) ⟨Nat.le_refl _, by simp⟩ (sbs (by simp (maxSteps := 2000000) only [go_sem, seval, reduceCtorEq, List.append_eq, List.length_nil, bs_empty]) rfl rfl) ?_
  rintro ⟨x, post⟩ ⟨hxn, hpost⟩
  simp only at hxn hpost ⊢
  have hl8 : (le n).length ≤ 8 := le_length 8 _ (by omega)
  have hl : post.length ≤ 8 := by
    have := congrArg List.length hpost
    rw [List.length_append, List.length_reverse, List.length_reverse] at this; omega
  by_cases hx : 0 < x
  · have f1 : ((x : Int) > 0) = True := eq_true (by omega)
    have v1 := wi1 (n := post.length) (by omega)
    have v2 : (x : Int).tmod 256 = ((x % 256 : Nat) : Int) := tmodN x 256
    have v3 : quoI .i64 (x : Int) 256 = _ := quoN x 256 (by omega)
    repeat' (first | (with_reducible first | refine pa ?_ | refine pb ?_ | refine pc ?_ | refine nxt_n ?_ | refine nxt_e ?_ | refine nxt_r ?_ | refine blk_n ?_ | refine blk_r ?_ | refine blk_hit ?_ | refine blk_miss (by rfl) ?_ | refine pd ?_ | refine pe ?_ | refine pf ?_ | refine pg ?_ | apply And.intro) | (refine hK _ ?_; clear hK K hΘ Θ) | (with_reducible first | refine cw1 ?_ | refine cw2 ?_ | exact cw3 | exact cw4) | ((with_reducible first | refine cw5 (fun gg => ?_) | refine cw6 (fun gg => ?_) | refine cw7 (fun gg => ?_)); try simp only [gg]) | refine cs1 hG rfl ?_ ?_ | refine cs2 hG rfl ?_ ?_ | ((first | refine rga hG (by kernel_rfl) (fun Θ K hΘ hK => ?_) | refine rgb hG (by kernel_rfl) (fun Θ K hΘ hK => ?_)); simp (maxSteps := 2000000) only [go_sem, seval, reduceCtorEq, f1, v1, v2, v3, w_byteN]) | ((first | refine Post.splitN (fun gg => ?_) (fun gg => ?_) | refine Post.split (fun gg => ?_) (fun gg => ?_)) <;> simp (maxSteps := 2000000) only [go_sem, seval, reduceCtorEq, gg, f1, v1, v2, v3, w_byteN]) | (refine finR (by simp only [go_sem, seval, reduceCtorEq, f1, v1, v2, v3, w_byteN]; exact rfl) ?_; simp only [go_sem, seval, reduceCtorEq, f1, v1, v2, v3, w_byteN]) | refine updL hM ?_ (by omega) | (with_reducible exact fun _ _ => rfl))
    all_goals (first | omega | (simp only [decide_eq_true_eq, decide_eq_false_iff_not] at *; omega) | (simp only [List.length_append, List.length_cons, List.length_nil] <;> omega) | exact one_bv _ | exact one_sv _ | skip)
    exact ⟨(x / 256, UInt8.ofNat (x % 256) :: post), ⟨by simp only; omega, by simp only; rw [← hpost, le_pos (n := x) (by omega)]; simp⟩, by simp only; omega, (sbs (by simp (maxSteps := 2000000) only [go_sem, seval, reduceCtorEq, List.append_eq, List.length_cons]) rfl rfl)⟩
  · have f1 : ((x : Int) > 0) = False := eq_false (by omega)
    have hx : x = 0 := by omega
    subst hx
    have hpe : post = (le n).reverse := by rw [← hpost, le_zero]; rfl
    have hr : numB n = UInt8.ofNat post.length :: post := by rw [numB, hpe, List.length_reverse]
    rw [hr]
    repeat' (first | (with_reducible first | refine pa ?_ | refine pb ?_ | refine pc ?_ | refine nxt_n ?_ | refine nxt_e ?_ | refine nxt_r ?_ | refine blk_n ?_ | refine blk_r ?_ | refine blk_hit ?_ | refine blk_miss (by rfl) ?_ | refine pd ?_ | refine pe ?_ | refine pf ?_ | refine pg ?_ | apply And.intro) | (refine hK _ ?_; clear hK K hΘ Θ) | (with_reducible first | refine cw1 ?_ | refine cw2 ?_ | exact cw3 | exact cw4) | ((with_reducible first | refine cw5 (fun gg => ?_) | refine cw6 (fun gg => ?_) | refine cw7 (fun gg => ?_)); try simp only [gg]) | refine cs1 hG rfl ?_ ?_ | refine cs2 hG rfl ?_ ?_ | ((first | refine rga hG (by kernel_rfl) (fun Θ K hΘ hK => ?_) | refine rgb hG (by kernel_rfl) (fun Θ K hΘ hK => ?_)); simp (maxSteps := 2000000) only [go_sem, seval, reduceCtorEq, f1, w_byteN]) | ((first | refine Post.splitN (fun gg => ?_) (fun gg => ?_) | refine Post.split (fun gg => ?_) (fun gg => ?_)) <;> simp (maxSteps := 2000000) only [go_sem, seval, reduceCtorEq, gg, f1, w_byteN]) | (refine finR (by simp only [go_sem, seval, reduceCtorEq, f1, w_byteN]; exact rfl) ?_; simp only [go_sem, seval, reduceCtorEq, f1, w_byteN]) | refine updL hM ?_ (by omega) | (with_reducible exact fun _ _ => rfl))
    all_goals (first | omega | (simp only [decide_eq_true_eq, decide_eq_false_iff_not] at *; omega) | (simp only [List.length_append, List.length_cons, List.length_nil] <;> omega) | exact one_bv _ | exact one_sv _ | skip)
    all_goals rfl
theorem RText_sp (s : List UInt8) (hs : s.length ≤ 4611686018427387904) : Rt 118 [.flat (.string (bs s))] (.flat (.string (bs (textB s)))) := by
  have hb := numB_length s.length (by omega)
  intro M mn
  refine fnL (C := kc 8 [] []) (rs := [.tmp 2]) envOk Tryd.func118 (by kernel_rfl) rfl rfl rfl rfl rfl rfl (Low.flat _) ?_
  intro E hG hM
  repeat' (first | (with_reducible first | refine pa ?_ | refine pb ?_ | refine pc ?_ | refine nxt_n ?_ | refine nxt_e ?_ | refine nxt_r ?_ | refine blk_n ?_ | refine blk_r ?_ | refine blk_hit ?_ | refine blk_miss (by rfl) ?_ | refine pd ?_ | refine pe ?_ | refine pf ?_ | refine pg ?_ | apply And.intro) | (refine hK _ ?_; clear hK K hΘ Θ) | (with_reducible first | refine cw1 ?_ | refine cw2 ?_ | exact cw3 | exact cw4) | ((with_reducible first | refine cw5 (fun gg => ?_) | refine cw6 (fun gg => ?_) | refine cw7 (fun gg => ?_)); try simp only [gg]) | refine cs1 hG rfl ?_ ?_ | refine cs2 hG rfl ?_ ?_ | ((first | refine kg (RNum_sp _ (by omega) _ _) rfl hΘ ?_ | refine rga hG (by kernel_rfl) (fun Θ K hΘ hK => ?_) | refine rgb hG (by kernel_rfl) (fun Θ K hΘ hK => ?_)); simp (maxSteps := 2000000) only [go_sem, seval, reduceCtorEq]) | ((first | refine Post.splitN (fun gg => ?_) (fun gg => ?_) | refine Post.split (fun gg => ?_) (fun gg => ?_)) <;> simp (maxSteps := 2000000) only [go_sem, seval, reduceCtorEq, gg]) | (refine finR (by simp only [go_sem, seval, reduceCtorEq]; exact rfl) ?_; simp only [go_sem, seval, reduceCtorEq]) | refine updL hM ?_ (by omega) | (with_reducible exact fun _ _ => rfl))
  all_goals (first | omega | (simp only [decide_eq_true_eq, decide_eq_false_iff_not] at *; omega) | (simp only [List.length_append, List.length_cons, List.length_nil] <;> omega) | exact one_bv _ | exact one_sv _ | skip)
  all_goals rfl
theorem RList_sp (l : List (List UInt8)) (hs : total l ≤ 1000000000) (hl : l.length ≤ 1000000) : Rt 91 [.sl false 1 l.length (sv l)] (.flat (.string (bs (listB l)))) := by
  have hn := numB_length l.length (by omega)
  intro M mn
  refine fnL (C := kc 21 [] []) (rs := [.tmp 2]) envOk Tryd.func91 (by kernel_rfl) rfl rfl rfl rfl rfl rfl (Low.flat _) ?_
  intro E hG hM
  repeat' (first | (with_reducible first | refine pa ?_ | refine pb ?_ | refine pc ?_ | refine nxt_n ?_ | refine nxt_e ?_ | refine nxt_r ?_ | refine blk_n ?_ | refine blk_r ?_ | refine blk_hit ?_ | refine blk_miss (by rfl) ?_ | refine pd ?_ | refine pe ?_ | refine pf ?_ | refine pg ?_ | apply And.intro) | (refine hK _ ?_; clear hK K hΘ Θ) | (with_reducible first | refine cw1 ?_ | refine cw2 ?_ | exact cw3 | exact cw4) | ((with_reducible first | refine cw5 (fun gg => ?_) | refine cw6 (fun gg => ?_) | refine cw7 (fun gg => ?_)); try simp only [gg]) | refine cs1 hG rfl ?_ ?_ | refine cs2 hG rfl ?_ ?_ | ((first | refine kg (RNum_sp _ (by omega) _ _) rfl hΘ ?_ | refine rga hG (by kernel_rfl) (fun Θ K hΘ hK => ?_) | refine rgb hG (by kernel_rfl) (fun Θ K hΘ hK => ?_)); simp (maxSteps := 2000000) only [go_sem, seval, reduceCtorEq]) | ((first | refine Post.splitN (fun gg => ?_) (fun gg => ?_) | refine Post.split (fun gg => ?_) (fun gg => ?_)) <;> simp (maxSteps := 2000000) only [go_sem, seval, reduceCtorEq, gg]) | (refine finR (by simp only [go_sem, seval, reduceCtorEq]; exact rfl) ?_; simp only [go_sem, seval, reduceCtorEq]) | refine updL hM ?_ (by omega) | (with_reducible exact fun _ _ => rfl))
  all_goals (first | omega | (simp only [decide_eq_true_eq, decide_eq_false_iff_not] at *; omega) | (simp only [List.length_append, List.length_cons, List.length_nil] <;> omega) | exact one_bv _ | exact one_sv _ | skip)
  refine WC.loopA (fun q : Nat × List UInt8 => ⟨[(11, .flat (.int .i64 q.1)), (10, .flat (.int .i64 l.length)), (9, .sl false 1 l.length (sv l)), (3, .flat (.string (bs q.2)))], M, mn⟩) (fun q => l.length - q.1) (fun q => q.1 ≤ l.length ∧ q.2 = numB l.length ++ listTail (l.take q.1)) (0, numB l.length) ⟨by simp, by simp [listTail]⟩ (sbs (by simp (maxSteps := 2000000) only [go_sem, seval, reduceCtorEq, List.append_eq]) rfl rfl) ?_
  rintro ⟨i, b⟩ ⟨hi, hb⟩
  simp only at hi hb ⊢
  by_cases h : i < l.length
  · have f1 : ((i : Int) < (l.length : Int)) = True := eq_true (by omega)
    have g1 : (i < l.length) = True := eq_true h
    have hmem : l.getD i [] ∈ l := by
      rw [List.getD_eq_getElem?_getD, List.getElem?_eq_getElem h]; exact List.getElem_mem _
    have hsz := mem_total hmem
    have hnl := numB_length (l.getD i []).length (by omega)
    have htl := listTail_length (l.take i) (by have := total_take l i; omega)
    have htt := total_take l i
    have hll : (l.take i).length ≤ l.length := by simp; omega
    have htn : b.length ≤ 2000000000 := by rw [hb, List.length_append]; omega
    have hxt : (textB (l.getD i [])).length ≤ 2000000000 := by rw [textB, List.length_append]; omega
    have v1 := wi1 (n := i) (by omega)
    repeat' (first | (with_reducible first | refine pa ?_ | refine pb ?_ | refine pc ?_ | refine nxt_n ?_ | refine nxt_e ?_ | refine nxt_r ?_ | refine blk_n ?_ | refine blk_r ?_ | refine blk_hit ?_ | refine blk_miss (by rfl) ?_ | refine pd ?_ | refine pe ?_ | refine pf ?_ | refine pg ?_ | apply And.intro) | (refine hK _ ?_; clear hK K hΘ Θ) | (with_reducible first | refine cw1 ?_ | refine cw2 ?_ | exact cw3 | exact cw4) | ((with_reducible first | refine cw5 (fun gg => ?_) | refine cw6 (fun gg => ?_) | refine cw7 (fun gg => ?_)); try simp only [gg]) | refine cs1 hG rfl ?_ ?_ | refine cs2 hG rfl ?_ ?_ | ((first | refine kg (RText_sp _ (by omega) _ _) rfl hΘ ?_ | refine rga hG (by kernel_rfl) (fun Θ K hΘ hK => ?_) | refine rgb hG (by kernel_rfl) (fun Θ K hΘ hK => ?_)); simp (maxSteps := 2000000) only [go_sem, seval, reduceCtorEq, f1, g1, v1]) | ((first | refine Post.splitN (fun gg => ?_) (fun gg => ?_) | refine Post.split (fun gg => ?_) (fun gg => ?_)) <;> simp (maxSteps := 2000000) only [go_sem, seval, reduceCtorEq, gg, f1, g1, v1]) | (refine finR (by simp only [go_sem, seval, reduceCtorEq, f1, g1, v1]; exact rfl) ?_; simp only [go_sem, seval, reduceCtorEq, f1, g1, v1]) | refine updL hM ?_ (by omega) | (with_reducible exact fun _ _ => rfl))
    all_goals (first | omega | (simp only [decide_eq_true_eq, decide_eq_false_iff_not] at *; omega) | (simp only [List.length_append, List.length_cons, List.length_nil] <;> omega) | exact one_bv _ | exact one_sv _ | skip)
    refine ⟨(i + 1, b ++ textB (l.getD i [])), ⟨by simp only; omega, ?_⟩, by simp only; omega, (sbs (by simp (maxSteps := 2000000) only [go_sem, seval, reduceCtorEq, List.append_eq]) rfl rfl)⟩
    simp only
    rw [hb, take_succ' h, listTail_append, listTail_one]; simp
  · have f1 : ((i : Int) < (l.length : Int)) = False := eq_false (by omega)
    rw [List.take_of_length_le (by omega)] at hb
    repeat' (first | (with_reducible first | refine pa ?_ | refine pb ?_ | refine pc ?_ | refine nxt_n ?_ | refine nxt_e ?_ | refine nxt_r ?_ | refine blk_n ?_ | refine blk_r ?_ | refine blk_hit ?_ | refine blk_miss (by rfl) ?_ | refine pd ?_ | refine pe ?_ | refine pf ?_ | refine pg ?_ | apply And.intro) | (refine hK _ ?_; clear hK K hΘ Θ) | (with_reducible first | refine cw1 ?_ | refine cw2 ?_ | exact cw3 | exact cw4) | ((with_reducible first | refine cw5 (fun gg => ?_) | refine cw6 (fun gg => ?_) | refine cw7 (fun gg => ?_)); try simp only [gg]) | refine cs1 hG rfl ?_ ?_ | refine cs2 hG rfl ?_ ?_ | ((first | refine rga hG (by kernel_rfl) (fun Θ K hΘ hK => ?_) | refine rgb hG (by kernel_rfl) (fun Θ K hΘ hK => ?_)); simp (maxSteps := 2000000) only [go_sem, seval, reduceCtorEq, f1]) | ((first | refine Post.splitN (fun gg => ?_) (fun gg => ?_) | refine Post.split (fun gg => ?_) (fun gg => ?_)) <;> simp (maxSteps := 2000000) only [go_sem, seval, reduceCtorEq, gg, f1]) | (refine finR (by simp only [go_sem, seval, reduceCtorEq, f1]; exact rfl) ?_; simp only [go_sem, seval, reduceCtorEq, f1]) | refine updL hM ?_ (by omega) | (with_reducible exact fun _ _ => rfl))
    all_goals (first | omega | (simp only [decide_eq_true_eq, decide_eq_false_iff_not] at *; omega) | (simp only [List.length_append, List.length_cons, List.length_nil] <;> omega) | exact one_bv _ | exact one_sv _ | skip)
    all_goals (rw [hb]; rfl)
end Go.VL

set_option linter.unusedVariables false
set_option linter.unusedSimpArgs false
set_option maxRecDepth 100000
set_option maxHeartbeats 8000000
open Go.RowKit
namespace Go.VL
open Go.Proofs
end Go.VL

set_option linter.unusedVariables false
set_option linter.unusedSimpArgs false
set_option maxRecDepth 100000
set_option maxHeartbeats 8000000
open Go.RowKit
namespace Go.VL
open Go.Proofs
end Go.VL

set_option linter.unusedVariables false
set_option linter.unusedSimpArgs false
set_option maxRecDepth 100000
set_option maxHeartbeats 8000000
open Go.RowKit
namespace Go.VL
open Go.Proofs
def fillB (l : List UInt8) (n i : Nat) : List UInt8 := l.take i ++ List.replicate (n - i) 0
end Go.VL

set_option linter.unusedVariables false
set_option linter.unusedSimpArgs false
set_option maxRecDepth 100000
set_option maxHeartbeats 8000000
open Go.RowKit
namespace Go.VL
open Go.Proofs
theorem RNumI_sp (n : Int) (h0 : 0 ≤ n) (hn : n < 9223372036854775808) : Rt 67 [.flat (.int .i64 n)] (.flat (.string (bs (numB n.toNat)))) := by
  have := RNum_sp n.toNat (by omega)
  rwa [show ((n.toNat : Nat) : Int) = n by omega] at this
end Go.VL

set_option linter.unusedVariables false
set_option linter.unusedSimpArgs false
set_option maxRecDepth 100000
set_option maxHeartbeats 8000000
open Go.RowKit
namespace Go.VL
open Go.Proofs
theorem R16num_sp (n : Int) (hn : n < 9223372036854775808) : Rt 92 [.flat (.int .i64 n)] (.flat (.string (bs (numB n.toNat)))) := by
  by_cases h : n < 0
  · have f1 := eq_true h
    have e : n.toNat = 0 := by omega
    have hR := RNum_sp 0 (by omega)
    rw [e]
    intro M mn
    refine fnL (C := kc 7 [] []) (rs := [.tmp 2]) envOk Tryd.func92 (by kernel_rfl) rfl rfl rfl rfl rfl rfl (Low.flat _) ?_
    intro E hG hM
    repeat' (first | (with_reducible first | refine pa ?_ | refine pb ?_ | refine pc ?_ | refine nxt_n ?_ | refine nxt_e ?_ | refine nxt_r ?_ | refine blk_n ?_ | refine blk_r ?_ | refine blk_hit ?_ | refine blk_miss (by rfl) ?_ | refine pd ?_ | refine pe ?_ | refine pf ?_ | refine pg ?_ | apply And.intro) | (refine hK _ ?_; clear hK K hΘ Θ) | (with_reducible first | refine cw1 ?_ | refine cw2 ?_ | exact cw3 | exact cw4) | ((with_reducible first | refine cw5 (fun gg => ?_) | refine cw6 (fun gg => ?_) | refine cw7 (fun gg => ?_)); try simp only [gg]) | refine cs1 hG rfl ?_ ?_ | refine cs2 hG rfl ?_ ?_ | ((first | refine kg (hR _ _) rfl hΘ ?_ | refine rga hG (by kernel_rfl) (fun Θ K hΘ hK => ?_) | refine rgb hG (by kernel_rfl) (fun Θ K hΘ hK => ?_)); simp (maxSteps := 2000000) only [go_sem, seval, reduceCtorEq, f1]) | ((first | refine Post.splitN (fun gg => ?_) (fun gg => ?_) | refine Post.split (fun gg => ?_) (fun gg => ?_)) <;> simp (maxSteps := 2000000) only [go_sem, seval, reduceCtorEq, gg, f1]) | (refine finR (by simp only [go_sem, seval, reduceCtorEq, f1]; exact rfl) ?_; simp only [go_sem, seval, reduceCtorEq, f1]) | refine updL hM ?_ (by omega) | (with_reducible exact fun _ _ => rfl))
    all_goals (first | omega | (simp only [decide_eq_true_eq, decide_eq_false_iff_not] at *; omega) | (simp only [List.length_append, List.length_cons, List.length_nil] <;> omega) | exact one_bv _ | exact one_sv _ | skip)
  · have f1 := eq_false h
    intro M mn
    refine fnL (C := kc 7 [] []) (rs := [.tmp 2]) envOk Tryd.func92 (by kernel_rfl) rfl rfl rfl rfl rfl rfl (Low.flat _) ?_
    intro E hG hM
    repeat' (first | (with_reducible first | refine pa ?_ | refine pb ?_ | refine pc ?_ | refine nxt_n ?_ | refine nxt_e ?_ | refine nxt_r ?_ | refine blk_n ?_ | refine blk_r ?_ | refine blk_hit ?_ | refine blk_miss (by rfl) ?_ | refine pd ?_ | refine pe ?_ | refine pf ?_ | refine pg ?_ | apply And.intro) | (refine hK _ ?_; clear hK K hΘ Θ) | (with_reducible first | refine cw1 ?_ | refine cw2 ?_ | exact cw3 | exact cw4) | ((with_reducible first | refine cw5 (fun gg => ?_) | refine cw6 (fun gg => ?_) | refine cw7 (fun gg => ?_)); try simp only [gg]) | refine cs1 hG rfl ?_ ?_ | refine cs2 hG rfl ?_ ?_ | ((first | refine kg (RNumI_sp n (by omega) hn _ _) rfl hΘ ?_ | refine rga hG (by kernel_rfl) (fun Θ K hΘ hK => ?_) | refine rgb hG (by kernel_rfl) (fun Θ K hΘ hK => ?_)); simp (maxSteps := 2000000) only [go_sem, seval, reduceCtorEq, f1]) | ((first | refine Post.splitN (fun gg => ?_) (fun gg => ?_) | refine Post.split (fun gg => ?_) (fun gg => ?_)) <;> simp (maxSteps := 2000000) only [go_sem, seval, reduceCtorEq, gg, f1]) | (refine finR (by simp only [go_sem, seval, reduceCtorEq, f1]; exact rfl) ?_; simp only [go_sem, seval, reduceCtorEq, f1]) | refine updL hM ?_ (by omega) | (with_reducible exact fun _ _ => rfl))
    all_goals (first | omega | (simp only [decide_eq_true_eq, decide_eq_false_iff_not] at *; omega) | (simp only [List.length_append, List.length_cons, List.length_nil] <;> omega) | exact one_bv _ | exact one_sv _ | skip)
end Go.VL
