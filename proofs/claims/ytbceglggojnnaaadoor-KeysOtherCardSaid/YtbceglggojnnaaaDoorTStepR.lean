/- Part TStepR of the proof: made for this claim. -/
import Derived.Test.YtbceglggojnnaaaDoorTStep
import Derived.Test.YtbceglggojnnaaaDoorTSumR
set_option linter.unusedVariables false
set_option linter.unusedSimpArgs false
set_option maxRecDepth 100000
set_option maxHeartbeats 8000000
open Go.RowKit
namespace Go.VL
open Go.Proofs
/-! The other text's steps. -/
theorem max0 (a : Int) : (if (0 : Int) > a then 0 else a) = ((a.toNat : Nat) : Int) := by split <;> omega
theorem tkE (x : Id16) : (bv x.1).take 16 = bv x.1 := by rw [bv_take, List.take_of_length_le (by rw [x.2]; omega)]
theorem plT_le (a b : Int) (ha : inR a) (hb : inR b) : (plT a b).length ≤ 18 := plT_len ⟨a, b⟩ ⟨ha, hb⟩
theorem step_tot (x : Id16) (a b : Int) (ha : inR a) (hb : inR b) (i : Nat) (hi : i < 9223372036854775808) : total [x.1, numB i, plT a b] ≤ 100 := by
  have h1 := plT_le a b ha hb
  have h2 := numB_length i hi
  have h3 := x.2
  simp only [total, List.map_cons, List.map_nil, List.sum_cons, List.sum_nil]; omega
theorem RNext_sp (x : Id16) (a b : Int) (ha : inR a) (hb : inR b) (i : Nat) (hi : i < 9223372036854775808) : Rt 120 [.agg (bv x.1), .flat (.int .i64 a), .flat (.int .i64 b), .flat (.int .i64 i)] (.agg (bv (stepE x a b i).1)) := by
  have h1 := max0 a
  have h2 := max0 b
  have h3 := step_tot x a b ha hb i hi
  have f16 := tkE x
  have n1 := numB_length a.toNat (by have := ha.2; omega)
  have n2 := numB_length b.toNat (by have := hb.2; omega)
  have m1 : a.toNat < 9223372036854775808 := by have := ha.2; omega
  have m2 : b.toNat < 9223372036854775808 := by have := hb.2; omega
  have hpl : numB a.toNat ++ numB b.toNat = plT a b := rfl
  have hst : cutE (shaSum [115] [x.1, numB i, plT a b]) = stepE x a b i := rfl
  intro M mn
  refine fnL (C := kc 23 [] []) (rs := [.cell 8 31]) envOk Tryd.func120 (by kernel_rfl) rfl rfl rfl rfl rfl rfl (lowAgg (FlatS.bv _)) ?_
  intro E hG hM
  repeat' (first | (with_reducible first | refine pa ?_ | refine pb ?_ | refine pc ?_ | refine nxt_n ?_ | refine nxt_e ?_ | refine nxt_r ?_ | refine blk_n ?_ | refine blk_r ?_ | refine blk_hit ?_ | refine blk_miss (by rfl) ?_ | refine pd ?_ | refine pe ?_ | refine pf ?_ | refine pg ?_ | apply And.intro) | (refine hK _ ?_; first | clear hK K hn0 hcl hΘ Θ | clear hK K hΘ Θ) | (with_reducible first | refine cw1 ?_ | refine cw2 ?_ | exact cw3 | exact cw4) | ((with_reducible first | refine cw5 (fun gg => ?_) | refine cw6 (fun gg => ?_) | refine cw7 (fun gg => ?_)); try simp only [gg]) | refine cs1 hG rfl ?_ ?_ | refine cs2 hG rfl ?_ ?_ | ((first | refine kf (fun M n => RNum_sp i hi M n) rfl (by decide) cl0 hΘ hcl hn0 ?_ | refine kf (fun M n => RNum_sp a.toNat m1 M n) rfl (by decide) cl0 hΘ hcl hn0 ?_ | refine kf (fun M n => RNum_sp b.toNat m2 M n) rfl (by decide) cl0 hΘ hcl hn0 ?_ | refine kf (fun M n => RSum_sp [115] [x.1, numB i, plT a b] (by simp) (by omega) (by simp) M n) rfl (by decide) cl0 hΘ hcl hn0 ?_ | refine kf (fun M n => RCut_sp (shaSum [115] [x.1, numB i, plT a b]) M n) rfl (by decide) cl0 hΘ hcl hn0 ?_ | refine rga hG (by kernel_rfl) (fun Θ K hΘ hK => ?_) | refine rgb hG (by kernel_rfl) (fun Θ K hΘ hK => ?_) | refine rgc defCl hG (by kernel_rfl) cl0 (by rfl) (by kernel_rfl) (fun Θ K hΘ hcl hn0 hK => ?_) | refine rgd defCl hG (by kernel_rfl) cl0 (by rfl) (by kernel_rfl) (fun Θ K hΘ hcl hn0 hK => ?_)); simp (maxSteps := 2000000) only [go_sem, seval, List.append_eq, Nat.reduceEqDiff, Nat.reduceLeDiff, reduceIte, reduceCtorEq, h1, h2, f16, hpl, hst]) | ((first | refine Post.splitN (fun gg => ?_) (fun gg => ?_) | refine PostB.splitN (fun gg => ?_) (fun gg => ?_) | refine Post.split (fun gg => ?_) (fun gg => ?_) | refine PostB.split (fun gg => ?_) (fun gg => ?_)) <;> simp (maxSteps := 2000000) only [go_sem, seval, List.append_eq, Nat.reduceEqDiff, Nat.reduceLeDiff, reduceIte, reduceCtorEq, gg, h1, h2, f16, hpl, hst]) | ((first | refine finR (by simp only [go_sem, seval, List.append_eq, Nat.reduceEqDiff, Nat.reduceLeDiff, reduceIte, reduceCtorEq, h1, h2, f16, hpl, hst]; exact rfl) ?_ | refine finN (by simp only [go_sem, seval, List.append_eq, Nat.reduceEqDiff, Nat.reduceLeDiff, reduceIte, reduceCtorEq, h1, h2, f16, hpl, hst]; exact rfl) ?_); simp only [go_sem, seval, List.append_eq, Nat.reduceEqDiff, Nat.reduceLeDiff, reduceIte, reduceCtorEq, h1, h2, f16, hpl, hst]) | refine updL hM ?_ (by omega) | (with_reducible exact fun _ _ => rfl))
  all_goals (first | omega | (simp only [decide_eq_true_eq, decide_eq_false_iff_not] at *; omega) | (simp only [List.length_append, List.length_cons, List.length_nil] <;> omega) | exact one_bv _ | exact one_sv _ | skip)
theorem RWalk_sp (x : Id16) (a b : Int) (ha : inR a) (hb : inR b) (s t : Int) (hs : inR s) (ht : inR t) : Rt 99 [.agg (bv x.1), .flat (.int .i64 a), .flat (.int .i64 b), .flat (.int .i64 s), .flat (.int .i64 t)] (.agg (bv (walkE x a b s t).1)) := by
  obtain ⟨m, hms⟩ : ∃ m : Nat, m = (max s 0).toNat := ⟨_, rfl⟩
  obtain ⟨T, hTs⟩ : ∃ T : Int, T = min t 15 := ⟨_, rfl⟩
  have hmb : m < 9223372036854775808 := by have := hs.2; omega
  have hw : walkE x a b s t = walkN a b (T - m).toNat m x := by rw [walkE, hms, hTs]; congr 1; omega
  have main : ∀ (f1 : (s < 0) = True ∧ (m : Int) = 0 ∨ (s < 0) = False ∧ (m : Int) = s) (f2 : (t > 15) = True ∧ T = 15 ∨ (t > 15) = False ∧ T = t), Rt 99 [.agg (bv x.1), .flat (.int .i64 a), .flat (.int .i64 b), .flat (.int .i64 s), .flat (.int .i64 t)] (.agg (bv (walkE x a b s t).1)) := by
    intro f1 f2
    rcases f1 with ⟨f1, hm⟩ | ⟨f1, hm⟩ <;> rcases f2 with ⟨f2, hT⟩ | ⟨f2, hT⟩
    all_goals
      intro M mn
      refine fnL (C := kc 28 [] []) (rs := [.cell 10 31]) envOk Tryd.func99 (by kernel_rfl) rfl rfl rfl rfl rfl rfl (lowAgg (FlatS.bv _)) ?_
      intro E hG hM
      repeat' (first | (with_reducible first | refine pa ?_ | refine pb ?_ | refine pc ?_ | refine nxt_n ?_ | refine nxt_e ?_ | refine nxt_r ?_ | refine blk_n ?_ | refine blk_r ?_ | refine blk_hit ?_ | refine blk_miss (by rfl) ?_ | refine pd ?_ | refine pe ?_ | refine pf ?_ | refine pg ?_ | apply And.intro) | (refine hK _ ?_; first | clear hK K hn0 hcl hΘ Θ | clear hK K hΘ Θ) | (with_reducible first | refine cw1 ?_ | refine cw2 ?_ | exact cw3 | exact cw4) | ((with_reducible first | refine cw5 (fun gg => ?_) | refine cw6 (fun gg => ?_) | refine cw7 (fun gg => ?_)); try simp only [gg]) | refine cs1 hG rfl ?_ ?_ | refine cs2 hG rfl ?_ ?_ | ((first | refine rga hG (by kernel_rfl) (fun Θ K hΘ hK => ?_) | refine rgb hG (by kernel_rfl) (fun Θ K hΘ hK => ?_) | refine rgc defCl hG (by kernel_rfl) cl0 (by rfl) (by kernel_rfl) (fun Θ K hΘ hcl hn0 hK => ?_) | refine rgd defCl hG (by kernel_rfl) cl0 (by rfl) (by kernel_rfl) (fun Θ K hΘ hcl hn0 hK => ?_)); simp (maxSteps := 2000000) only [go_sem, seval, List.append_eq, Nat.reduceEqDiff, Nat.reduceLeDiff, reduceIte, reduceCtorEq, f1, f2]) | ((first | refine Post.splitN (fun gg => ?_) (fun gg => ?_) | refine PostB.splitN (fun gg => ?_) (fun gg => ?_) | refine Post.split (fun gg => ?_) (fun gg => ?_) | refine PostB.split (fun gg => ?_) (fun gg => ?_)) <;> simp (maxSteps := 2000000) only [go_sem, seval, List.append_eq, Nat.reduceEqDiff, Nat.reduceLeDiff, reduceIte, reduceCtorEq, gg, f1, f2]) | ((first | refine finR (by simp only [go_sem, seval, List.append_eq, Nat.reduceEqDiff, Nat.reduceLeDiff, reduceIte, reduceCtorEq, f1, f2]; exact rfl) ?_ | refine finN (by simp only [go_sem, seval, List.append_eq, Nat.reduceEqDiff, Nat.reduceLeDiff, reduceIte, reduceCtorEq, f1, f2]; exact rfl) ?_); simp only [go_sem, seval, List.append_eq, Nat.reduceEqDiff, Nat.reduceLeDiff, reduceIte, reduceCtorEq, f1, f2]) | refine updL hM ?_ (by omega) | (with_reducible exact fun _ _ => rfl))
      all_goals (first | omega | (simp only [decide_eq_true_eq, decide_eq_false_iff_not] at *; omega) | (simp only [List.length_append, List.length_cons, List.length_nil] <;> omega) | exact one_bv _ | exact one_sv _ | skip)
      refine WC.loopA (fun q : Nat × Id16 => ⟨[(11, .flat (.int .i64 q.1)), (10, .bp (mn + 1) 0), (5, .bp mn 0), (4, .flat (.int .i64 T)), (1, .flat (.int .i64 a)), (2, .flat (.int .i64 b))], upd (upd M mn (some (bv q.2.1))) (mn + 1) (some (bv z16.1)), mn + 1 + 1⟩) (fun q => (T - q.1).toNat) (fun q => q.1 < 9223372036854775808 ∧ walkN a b (T - q.1).toNat q.1 q.2 = walkE x a b s t) (m, x) ⟨hmb, hw.symm⟩ (sbs (by simp (maxSteps := 2000000) only [go_sem, seval, List.append_eq, Nat.reduceEqDiff, Nat.reduceLeDiff, reduceIte, reduceCtorEq, hm, hT]) rfl rfl) ?_
      rintro ⟨i, y⟩ ⟨hi, hy⟩
      simp only at hi hy ⊢
      by_cases h : (i : Int) < T
      · have g1 := eq_true h
        have v1 := wi1 (n := i) (by omega)
        have hsw : ∀ (a b c : Option (List V)), upd (upd (upd M mn a) (mn + 1) b) mn c = upd (upd M mn c) (mn + 1) b := fun a b c => by rw [upd_swap (by omega), upd_upd]
        repeat' (first | (with_reducible first | refine pa ?_ | refine pb ?_ | refine pc ?_ | refine nxt_n ?_ | refine nxt_e ?_ | refine nxt_r ?_ | refine blk_n ?_ | refine blk_r ?_ | refine blk_hit ?_ | refine blk_miss (by rfl) ?_ | refine pd ?_ | refine pe ?_ | refine pf ?_ | refine pg ?_ | apply And.intro) | (refine hK _ ?_; first | clear hK K hn0 hcl hΘ Θ | clear hK K hΘ Θ) | (with_reducible first | refine cw1 ?_ | refine cw2 ?_ | exact cw3 | exact cw4) | ((with_reducible first | refine cw5 (fun gg => ?_) | refine cw6 (fun gg => ?_) | refine cw7 (fun gg => ?_)); try simp only [gg]) | refine cs1 hG rfl ?_ ?_ | refine cs2 hG rfl ?_ ?_ | ((first | refine kg (RNext_sp y a b ha hb i hi _ _) rfl hΘ ?_ | refine rga hG (by kernel_rfl) (fun Θ K hΘ hK => ?_) | refine rgb hG (by kernel_rfl) (fun Θ K hΘ hK => ?_) | refine rgc defCl hG (by kernel_rfl) cl0 (by rfl) (by kernel_rfl) (fun Θ K hΘ hcl hn0 hK => ?_) | refine rgd defCl hG (by kernel_rfl) cl0 (by rfl) (by kernel_rfl) (fun Θ K hΘ hcl hn0 hK => ?_)); simp (maxSteps := 2000000) only [go_sem, seval, List.append_eq, Nat.reduceEqDiff, Nat.reduceLeDiff, reduceIte, reduceCtorEq, g1, v1, hsw]) | ((first | refine Post.splitN (fun gg => ?_) (fun gg => ?_) | refine PostB.splitN (fun gg => ?_) (fun gg => ?_) | refine Post.split (fun gg => ?_) (fun gg => ?_) | refine PostB.split (fun gg => ?_) (fun gg => ?_)) <;> simp (maxSteps := 2000000) only [go_sem, seval, List.append_eq, Nat.reduceEqDiff, Nat.reduceLeDiff, reduceIte, reduceCtorEq, gg, g1, v1, hsw]) | ((first | refine finR (by simp only [go_sem, seval, List.append_eq, Nat.reduceEqDiff, Nat.reduceLeDiff, reduceIte, reduceCtorEq, g1, v1, hsw]; exact rfl) ?_ | refine finN (by simp only [go_sem, seval, List.append_eq, Nat.reduceEqDiff, Nat.reduceLeDiff, reduceIte, reduceCtorEq, g1, v1, hsw]; exact rfl) ?_); simp only [go_sem, seval, List.append_eq, Nat.reduceEqDiff, Nat.reduceLeDiff, reduceIte, reduceCtorEq, g1, v1, hsw]) | refine updL hM ?_ (by omega) | (with_reducible exact fun _ _ => rfl))
        all_goals (first | omega | (simp only [decide_eq_true_eq, decide_eq_false_iff_not] at *; omega) | (simp only [List.length_append, List.length_cons, List.length_nil] <;> omega) | exact one_bv _ | exact one_sv _ | skip)
        refine ⟨(i + 1, stepE y a b i), ⟨by simp only; omega, ?_⟩, by simp only; omega, (sbs (by simp (maxSteps := 2000000) only [go_sem, seval, List.append_eq, Nat.reduceEqDiff, Nat.reduceLeDiff, reduceIte, reduceCtorEq]) rfl rfl)⟩
        simp only
        rw [← hy, show (T - i).toNat = (T - ((i + 1 : Nat) : Int)).toNat + 1 by omega]; rfl
      · have g1 := eq_false h
        have hy : y = walkE x a b s t := by rw [← hy, show (T - i).toNat = 0 by omega]; rfl
        rw [← hy]
        repeat' (first | (with_reducible first | refine pa ?_ | refine pb ?_ | refine pc ?_ | refine nxt_n ?_ | refine nxt_e ?_ | refine nxt_r ?_ | refine blk_n ?_ | refine blk_r ?_ | refine blk_hit ?_ | refine blk_miss (by rfl) ?_ | refine pd ?_ | refine pe ?_ | refine pf ?_ | refine pg ?_ | apply And.intro) | (refine hK _ ?_; first | clear hK K hn0 hcl hΘ Θ | clear hK K hΘ Θ) | (with_reducible first | refine cw1 ?_ | refine cw2 ?_ | exact cw3 | exact cw4) | ((with_reducible first | refine cw5 (fun gg => ?_) | refine cw6 (fun gg => ?_) | refine cw7 (fun gg => ?_)); try simp only [gg]) | refine cs1 hG rfl ?_ ?_ | refine cs2 hG rfl ?_ ?_ | ((first | refine rga hG (by kernel_rfl) (fun Θ K hΘ hK => ?_) | refine rgb hG (by kernel_rfl) (fun Θ K hΘ hK => ?_) | refine rgc defCl hG (by kernel_rfl) cl0 (by rfl) (by kernel_rfl) (fun Θ K hΘ hcl hn0 hK => ?_) | refine rgd defCl hG (by kernel_rfl) cl0 (by rfl) (by kernel_rfl) (fun Θ K hΘ hcl hn0 hK => ?_)); simp (maxSteps := 2000000) only [go_sem, seval, List.append_eq, Nat.reduceEqDiff, Nat.reduceLeDiff, reduceIte, reduceCtorEq, g1]) | ((first | refine Post.splitN (fun gg => ?_) (fun gg => ?_) | refine PostB.splitN (fun gg => ?_) (fun gg => ?_) | refine Post.split (fun gg => ?_) (fun gg => ?_) | refine PostB.split (fun gg => ?_) (fun gg => ?_)) <;> simp (maxSteps := 2000000) only [go_sem, seval, List.append_eq, Nat.reduceEqDiff, Nat.reduceLeDiff, reduceIte, reduceCtorEq, gg, g1]) | ((first | refine finR (by simp only [go_sem, seval, List.append_eq, Nat.reduceEqDiff, Nat.reduceLeDiff, reduceIte, reduceCtorEq, g1]; exact rfl) ?_ | refine finN (by simp only [go_sem, seval, List.append_eq, Nat.reduceEqDiff, Nat.reduceLeDiff, reduceIte, reduceCtorEq, g1]; exact rfl) ?_); simp only [go_sem, seval, List.append_eq, Nat.reduceEqDiff, Nat.reduceLeDiff, reduceIte, reduceCtorEq, g1]) | refine updL hM ?_ (by omega) | (with_reducible exact fun _ _ => rfl))
        all_goals (first | omega | (simp only [decide_eq_true_eq, decide_eq_false_iff_not] at *; omega) | (simp only [List.length_append, List.length_cons, List.length_nil] <;> omega) | exact one_bv _ | exact one_sv _ | skip)
  refine main ?_ ?_
  · by_cases h : s < 0
    · exact .inl ⟨eq_true h, by omega⟩
    · exact .inr ⟨eq_false h, by omega⟩
  · by_cases h : t > 15
    · exact .inl ⟨eq_true h, by omega⟩
    · exact .inr ⟨eq_false h, by omega⟩
theorem nib_even (x : List UInt8) (j : Nat) : nib x (2 * j) = (x.getD j 0).toNat / 16 := by
  unfold nib
  have := (x.getD j 0).toNat_lt
  rw [show 2 * j / 2 = j by omega, show 2 * j % 2 = 0 by omega]
  simp only [Nat.mul_zero, Nat.sub_zero, Nat.reducePow]; omega
theorem nib_odd (x : List UInt8) (j : Nat) : nib x (2 * j + 1) = (x.getD j 0).toNat % 16 := by
  unfold nib
  rw [show (2 * j + 1) / 2 = j by omega, show (2 * j + 1) % 2 = 1 by omega]
  simp
theorem take_two {α : Type} (l : List α) (i : Nat) (d : α) (h : i + 1 < l.length) : l.take (i + 1 + 1) = l.take i ++ [l.getD i d, l.getD (i + 1) d] := by
  rw [take_snoc l (i + 1) d h, take_snoc l i d (by omega)]; simp
theorem RDigits_sp (x : Id16) : Rt 105 [.agg (bv x.1)] (.sl true 1 35 (iv (digs x.1))) := by
  have hx := x.2
  have hdl := digs_len x.1
  intro M mn
  refine fnL (C := kc 41 [11, 31] []) (rs := [.tmp 2]) envOk Tryd.func105 (by kernel_rfl) rfl rfl rfl rfl rfl rfl (lowSl (FlatS.iv _)) ?_
  intro E hG hM
  repeat' (first | (with_reducible first | refine pa ?_ | refine pb ?_ | refine pc ?_ | refine nxt_n ?_ | refine nxt_e ?_ | refine nxt_r ?_ | refine blk_n ?_ | refine blk_r ?_ | refine blk_hit ?_ | refine blk_miss (by rfl) ?_ | refine pd ?_ | refine pe ?_ | refine pf ?_ | refine pg ?_ | apply And.intro) | (refine hK _ ?_; first | clear hK K hn0 hcl hΘ Θ | clear hK K hΘ Θ) | (with_reducible first | refine cw1 ?_ | refine cw2 ?_ | exact cw3 | exact cw4) | ((with_reducible first | refine cw5 (fun gg => ?_) | refine cw6 (fun gg => ?_) | refine cw7 (fun gg => ?_)); try simp only [gg]) | refine cs1 hG rfl ?_ ?_ | refine cs2 hG rfl ?_ ?_ | ((first | refine rga hG (by kernel_rfl) (fun Θ K hΘ hK => ?_) | refine rgb hG (by kernel_rfl) (fun Θ K hΘ hK => ?_) | refine rgc defCl hG (by kernel_rfl) cl0 (by rfl) (by kernel_rfl) (fun Θ K hΘ hcl hn0 hK => ?_) | refine rgd defCl hG (by kernel_rfl) cl0 (by rfl) (by kernel_rfl) (fun Θ K hΘ hcl hn0 hK => ?_)); simp (maxSteps := 2000000) only [go_sem, seval, List.append_eq, Nat.reduceEqDiff, Nat.reduceLeDiff, reduceIte, reduceCtorEq]) | ((first | refine Post.splitN (fun gg => ?_) (fun gg => ?_) | refine PostB.splitN (fun gg => ?_) (fun gg => ?_) | refine Post.split (fun gg => ?_) (fun gg => ?_) | refine PostB.split (fun gg => ?_) (fun gg => ?_)) <;> simp (maxSteps := 2000000) only [go_sem, seval, List.append_eq, Nat.reduceEqDiff, Nat.reduceLeDiff, reduceIte, reduceCtorEq, gg]) | ((first | refine finR (by simp only [go_sem, seval, List.append_eq, Nat.reduceEqDiff, Nat.reduceLeDiff, reduceIte, reduceCtorEq]; exact rfl) ?_ | refine finN (by simp only [go_sem, seval, List.append_eq, Nat.reduceEqDiff, Nat.reduceLeDiff, reduceIte, reduceCtorEq]; exact rfl) ?_); simp only [go_sem, seval, List.append_eq, Nat.reduceEqDiff, Nat.reduceLeDiff, reduceIte, reduceCtorEq]) | refine updL hM ?_ (by omega) | (with_reducible exact fun _ _ => rfl))
  all_goals (first | omega | (simp only [decide_eq_true_eq, decide_eq_false_iff_not] at *; omega) | (simp only [List.length_append, List.length_cons, List.length_nil] <;> omega) | exact one_bv _ | exact one_sv _ | skip)
  refine WC.loopA (fun j : Nat => ⟨[(8, .flat (.int .i64 j)), (7, .agg (bv x.1)), (4, .flat (.int .i64 (lft x.1 (2 * j) : Nat))), (3, .sl true 1 ((digs x.1).take (2 * j)).length (iv ((digs x.1).take (2 * j)))), (1, .bp mn 0)], upd M mn (some (bv x.1)), mn + 1⟩) (fun j => 16 - j) (fun j => j ≤ 16) 0 (by omega) (sbs (by simp (maxSteps := 2000000) only [go_sem, seval, List.append_eq, Nat.reduceEqDiff, Nat.reduceLeDiff, reduceIte, reduceCtorEq, Nat.mul_zero, lft, List.length_nil]) rfl rfl) ?_
  intro j hj
  by_cases h : j < 16
  · have f1 : ((j : Int) < 16) = True := eq_true (by omega)
    have g1 : (j < 16) = True := eq_true h
    have v1 := wi1 (n := j) (by omega)
    have hN := take_two (digs x.1) (2 * j) 0 (by omega)
    rw [digs_get _ _ (by omega), digs_get _ _ (by omega), nib_even, nib_odd] at hN
    have hT : ((digs x.1).take (2 * j)).length = 2 * j := by rw [List.length_take]; omega
    have hl : lft x.1 (2 * j + 1 + 1) = lft x.1 (2 * j) + (15 - nib x.1 (2 * j)) + (15 - nib x.1 (2 * j + 1)) := rfl
    have h1 := nib_lt x.1 (2 * j)
    have h2 := nib_lt x.1 (2 * j + 1)
    have hlf := lft_le x.1 (2 * j)
    rw [nib_even, nib_odd] at hl
    rw [nib_even] at h1
    rw [nib_odd] at h2
    have e2 : 2 * (j + 1) = 2 * j + 1 + 1 := by omega
    generalize hc : (x.1.getD j 0) = c at *
    have hc2 := c.toNat_lt
    have v2 : IntKind.i64.wrap (c.toNat : Int) = (c.toNat : Int) := wi0 (by omega)
    have v3 : quoI .i64 (c.toNat : Int) 16 = _ := quoN c.toNat 16 (by omega)
    have v4 : (c.toNat : Int).tmod 16 = _ := tmodN c.toNat 16
    generalize lft x.1 (2 * j) = A at *
    have v5 : IntKind.i64.wrap ((A : Int) + 30) = ((A + 30 : Nat) : Int) := by rw [wi (by omega) (by omega)]; omega
    have v6 : IntKind.i64.wrap (((A + 30 : Nat) : Int) - ((c.toNat / 16 : Nat) : Int)) = ((A + 30 - c.toNat / 16 : Nat) : Int) := by rw [wi (by omega) (by omega)]; omega
    have v7 : IntKind.i64.wrap (((A + 30 - c.toNat / 16 : Nat) : Int) - ((c.toNat % 16 : Nat) : Int)) = ((lft x.1 (2 * j + 1 + 1) : Nat) : Int) := by rw [hl, wi (by omega) (by omega)]; omega
    generalize (digs x.1).take (2 * j) = D at *
    repeat' (first | (with_reducible first | refine pa ?_ | refine pb ?_ | refine pc ?_ | refine nxt_n ?_ | refine nxt_e ?_ | refine nxt_r ?_ | refine blk_n ?_ | refine blk_r ?_ | refine blk_hit ?_ | refine blk_miss (by rfl) ?_ | refine pd ?_ | refine pe ?_ | refine pf ?_ | refine pg ?_ | apply And.intro) | (refine hK _ ?_; first | clear hK K hn0 hcl hΘ Θ | clear hK K hΘ Θ) | (with_reducible first | refine cw1 ?_ | refine cw2 ?_ | exact cw3 | exact cw4) | ((with_reducible first | refine cw5 (fun gg => ?_) | refine cw6 (fun gg => ?_) | refine cw7 (fun gg => ?_)); try simp only [gg]) | refine cs1 hG rfl ?_ ?_ | refine cs2 hG rfl ?_ ?_ | ((first | refine rga hG (by kernel_rfl) (fun Θ K hΘ hK => ?_) | refine rgb hG (by kernel_rfl) (fun Θ K hΘ hK => ?_) | refine rgc defCl hG (by kernel_rfl) cl0 (by rfl) (by kernel_rfl) (fun Θ K hΘ hcl hn0 hK => ?_) | refine rgd defCl hG (by kernel_rfl) cl0 (by rfl) (by kernel_rfl) (fun Θ K hΘ hcl hn0 hK => ?_)); simp (maxSteps := 2000000) only [go_sem, seval, List.append_eq, Nat.reduceEqDiff, Nat.reduceLeDiff, reduceIte, reduceCtorEq, f1, g1, v1, v2, v3, v4, v5, v6, v7, hc, hx, hT]) | ((first | refine Post.splitN (fun gg => ?_) (fun gg => ?_) | refine PostB.splitN (fun gg => ?_) (fun gg => ?_) | refine Post.split (fun gg => ?_) (fun gg => ?_) | refine PostB.split (fun gg => ?_) (fun gg => ?_)) <;> simp (maxSteps := 2000000) only [go_sem, seval, List.append_eq, Nat.reduceEqDiff, Nat.reduceLeDiff, reduceIte, reduceCtorEq, gg, f1, g1, v1, v2, v3, v4, v5, v6, v7, hc, hx, hT]) | ((first | refine finR (by simp only [go_sem, seval, List.append_eq, Nat.reduceEqDiff, Nat.reduceLeDiff, reduceIte, reduceCtorEq, f1, g1, v1, v2, v3, v4, v5, v6, v7, hc, hx, hT]; exact rfl) ?_ | refine finN (by simp only [go_sem, seval, List.append_eq, Nat.reduceEqDiff, Nat.reduceLeDiff, reduceIte, reduceCtorEq, f1, g1, v1, v2, v3, v4, v5, v6, v7, hc, hx, hT]; exact rfl) ?_); simp only [go_sem, seval, List.append_eq, Nat.reduceEqDiff, Nat.reduceLeDiff, reduceIte, reduceCtorEq, f1, g1, v1, v2, v3, v4, v5, v6, v7, hc, hx, hT]) | refine updL hM ?_ (by omega) | (with_reducible exact fun _ _ => rfl))
    all_goals (first | omega | (simp only [decide_eq_true_eq, decide_eq_false_iff_not] at *; omega) | (simp only [List.length_append, List.length_cons, List.length_nil] <;> omega) | exact one_bv _ | exact one_sv _ | skip)
    exact ⟨j + 1, by omega, by omega, (sbs (by simp (maxSteps := 2000000) only [go_sem, seval, List.append_eq, Nat.reduceEqDiff, Nat.reduceLeDiff, reduceIte, reduceCtorEq, e2, hN, List.length_append, List.length_cons, List.length_nil, hT]) rfl rfl)⟩
  · have f1 : ((j : Int) < 16) = False := eq_false (by omega)
    have e : j = 16 := by omega
    subst e
    have hT : ((digs x.1).take 32).length = 32 := by rw [List.length_take]; omega
    have hE : digs x.1 = (digs x.1).take 32 ++ [((lft x.1 32 / 256 : Nat) : Int), ((lft x.1 32 / 16 % 16 : Nat) : Int), ((lft x.1 32 % 16 : Nat) : Int)] := by
      rw [digs, List.take_left' (by simp)]
    have hlf := lft_le x.1 32
    simp only [Nat.reduceMul]
    generalize hD : (digs x.1).take 32 = D at *
    generalize lft x.1 32 = A at *
    have v3 : quoI .i64 (A : Int) 256 = _ := quoN A 256 (by omega)
    have v4 : quoI .i64 (A : Int) 16 = _ := quoN A 16 (by omega)
    have v5 : ((A / 16 : Nat) : Int).tmod 16 = _ := tmodN (A / 16) 16
    have v6 : (A : Int).tmod 16 = _ := tmodN A 16
    repeat' (first | (with_reducible first | refine pa ?_ | refine pb ?_ | refine pc ?_ | refine nxt_n ?_ | refine nxt_e ?_ | refine nxt_r ?_ | refine blk_n ?_ | refine blk_r ?_ | refine blk_hit ?_ | refine blk_miss (by rfl) ?_ | refine pd ?_ | refine pe ?_ | refine pf ?_ | refine pg ?_ | apply And.intro) | (refine hK _ ?_; first | clear hK K hn0 hcl hΘ Θ | clear hK K hΘ Θ) | (with_reducible first | refine cw1 ?_ | refine cw2 ?_ | exact cw3 | exact cw4) | ((with_reducible first | refine cw5 (fun gg => ?_) | refine cw6 (fun gg => ?_) | refine cw7 (fun gg => ?_)); try simp only [gg]) | refine cs1 hG rfl ?_ ?_ | refine cs2 hG rfl ?_ ?_ | ((first | refine rga hG (by kernel_rfl) (fun Θ K hΘ hK => ?_) | refine rgb hG (by kernel_rfl) (fun Θ K hΘ hK => ?_) | refine rgc defCl hG (by kernel_rfl) cl0 (by rfl) (by kernel_rfl) (fun Θ K hΘ hcl hn0 hK => ?_) | refine rgd defCl hG (by kernel_rfl) cl0 (by rfl) (by kernel_rfl) (fun Θ K hΘ hcl hn0 hK => ?_)); simp (maxSteps := 2000000) only [go_sem, seval, List.append_eq, Nat.reduceEqDiff, Nat.reduceLeDiff, reduceIte, reduceCtorEq, f1, v3, v4, v5, v6, hT]) | ((first | refine Post.splitN (fun gg => ?_) (fun gg => ?_) | refine PostB.splitN (fun gg => ?_) (fun gg => ?_) | refine Post.split (fun gg => ?_) (fun gg => ?_) | refine PostB.split (fun gg => ?_) (fun gg => ?_)) <;> simp (maxSteps := 2000000) only [go_sem, seval, List.append_eq, Nat.reduceEqDiff, Nat.reduceLeDiff, reduceIte, reduceCtorEq, gg, f1, v3, v4, v5, v6, hT]) | ((first | refine finR (by simp only [go_sem, seval, List.append_eq, Nat.reduceEqDiff, Nat.reduceLeDiff, reduceIte, reduceCtorEq, f1, v3, v4, v5, v6, hT]; exact rfl) ?_ | refine finN (by simp only [go_sem, seval, List.append_eq, Nat.reduceEqDiff, Nat.reduceLeDiff, reduceIte, reduceCtorEq, f1, v3, v4, v5, v6, hT]; exact rfl) ?_); simp only [go_sem, seval, List.append_eq, Nat.reduceEqDiff, Nat.reduceLeDiff, reduceIte, reduceCtorEq, f1, v3, v4, v5, v6, hT]) | refine updL hM ?_ (by omega) | (with_reducible exact fun _ _ => rfl))
    all_goals (first | omega | (simp only [decide_eq_true_eq, decide_eq_false_iff_not] at *; omega) | (simp only [List.length_append, List.length_cons, List.length_nil] <;> omega) | exact one_bv _ | exact one_sv _ | skip)
    rw [hE]
end Go.VL
