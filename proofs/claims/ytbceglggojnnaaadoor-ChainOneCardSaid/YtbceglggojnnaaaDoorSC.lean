/- Part SC of the proof: made for this claim. -/
import Derived.Test.YtbceglggojnnaaaDoorSB
set_option linter.unusedVariables false
set_option linter.unusedSimpArgs false
set_option maxRecDepth 100000
set_option maxHeartbeats 8000000
open Go.RowKit
namespace Go.VL
open Go.Proofs
theorem Up_sp (l r : Id16) (a b : Int) (ha : a < 9223372036854775808) (hb : b < 9223372036854775808) : Rt 104 [.agg (bv l.1), .agg (bv r.1), .flat (.int .i64 a), .flat (.int .i64 b)] (.agg (bv (upE l r a b).1)) := by
  have ht := up_tot l r a.toNat b.toNat (by omega) (by omega)
  have hst : cutE (shaSum [110] [l.1 ++ r.1, numB a.toNat, numB b.toNat]) = upE l r a b := rfl
  have hl := l.2
  have hr := r.2
  have f1 : (bv l.1).take 16 = bv l.1 := tk16 l
  have f2 : (bv r.1).take 16 = bv r.1 := tk16 r
  intro M mn
  refine fnL (C := kc 21 [] []) (rs := [.cell 8 31]) envOk Tryd.func104 (by kernel_rfl) rfl rfl rfl rfl rfl rfl (lowAgg (FlatS.bv _)) ?_
  intro E hG hM
  repeat' (first | (with_reducible first | refine pa ?_ | refine pb ?_ | refine pc ?_ | refine nxt_n ?_ | refine nxt_e ?_ | refine nxt_r ?_ | refine blk_n ?_ | refine blk_r ?_ | refine blk_hit ?_ | refine blk_miss (by rfl) ?_ | refine pd ?_ | refine pe ?_ | refine pf ?_ | refine pg ?_ | apply And.intro) | (refine hK _ ?_; first | clear hK K hn0 hcl hΘ Θ | clear hK K hΘ Θ) | (with_reducible first | refine cw1 ?_ | refine cw2 ?_ | exact cw3 | exact cw4) | ((with_reducible first | refine cw5 (fun gg => ?_) | refine cw6 (fun gg => ?_) | refine cw7 (fun gg => ?_)); try simp only [gg]) | refine cs1 hG rfl ?_ ?_ | refine cs2 hG rfl ?_ ?_ | ((first | refine kf (fun M n => Num_sp a ha M n) rfl (by decide) cl0 hΘ hcl hn0 ?_ | refine kf (fun M n => Num_sp b hb M n) rfl (by decide) cl0 hΘ hcl hn0 ?_ | refine kf (fun M n => Sum_sp [110] [l.1 ++ r.1, numB a.toNat, numB b.toNat] (by simp) (by omega) (by simp) M n) rfl (by decide) cl0 hΘ hcl hn0 ?_ | refine kf (fun M n => Cut_sp (shaSum [110] [l.1 ++ r.1, numB a.toNat, numB b.toNat]) M n) rfl (by decide) cl0 hΘ hcl hn0 ?_ | refine rga hG (by kernel_rfl) (fun Θ K hΘ hK => ?_) | refine rgb hG (by kernel_rfl) (fun Θ K hΘ hK => ?_) | refine rgc defCl hG (by kernel_rfl) cl0 (by rfl) (by kernel_rfl) (fun Θ K hΘ hcl hn0 hK => ?_) | refine rgd defCl hG (by kernel_rfl) cl0 (by rfl) (by kernel_rfl) (fun Θ K hΘ hcl hn0 hK => ?_)); simp (maxSteps := 2000000) only [go_sem, seval, reduceCtorEq, f1, f2, hst]) | ((first | refine Post.splitN (fun gg => ?_) (fun gg => ?_) | refine PostB.splitN (fun gg => ?_) (fun gg => ?_) | refine Post.split (fun gg => ?_) (fun gg => ?_) | refine PostB.split (fun gg => ?_) (fun gg => ?_)) <;> simp (maxSteps := 2000000) only [go_sem, seval, reduceCtorEq, gg, f1, f2, hst]) | (refine finR (by simp only [go_sem, seval, reduceCtorEq, f1, f2, hst]; exact rfl) ?_; simp only [go_sem, seval, reduceCtorEq, f1, f2, hst]) | refine updL hM ?_ (by omega) | (with_reducible exact fun _ _ => rfl))
  all_goals (first | omega | (simp only [decide_eq_true_eq, decide_eq_false_iff_not] at *; omega) | (simp only [List.length_append, List.length_cons, List.length_nil] <;> omega) | exact one_bv _ | exact one_sv _ | skip)
theorem goodN_and (n : Nat) : n ≤ 256 → 0 < n → ((n &&& (n - 1)) = 0 ↔ goodN n) := by
  intro h1 h2
  have h : ∀ k : Fin 257, 0 < k.val → ((k.val &&& (k.val - 1)) = 0 ↔ goodN k.val) := by decide +kernel
  exact h ⟨n, by omega⟩ h2
theorem goodN_le {n : Nat} (h : goodN n) : 0 < n ∧ n ≤ 256 := by
  unfold goodN at h; omega
theorem good_sp (n : Nat) (hn : n < 9223372036854775808) : Rt 96 [.flat (.int .i64 n)] (.flat (.bool (decide (goodN n)))) := by
  intro M mn
  refine fnL (C := kc 16 [] []) (rs := [.tmp 2]) envOk Tryd.func96 (by kernel_rfl) rfl rfl rfl rfl rfl rfl (Low.flat _) ?_
  intro E hG hM
  by_cases h1 : 0 < n
  · have f1 : ((0 : Int) < n) = True := eq_true (by omega)
    by_cases h2 : n ≤ 256
    · have f2 : ((n : Int) ≤ 256) = True := eq_true (by omega)
      have v1 : IntKind.i64.wrap ((n : Int) - 1) = ((n - 1 : Nat) : Int) := by rw [wi (by omega) (by omega)]; omega
      have v2 := andI_n n (n - 1) hn (by omega)
      have h3 := goodN_and n h2 h1
      by_cases h4 : goodN n
      · have f3 : (((n &&& (n - 1) : Nat) : Int) = 0) = True := eq_true (by have := h3.2 h4; omega)
        have f4 := decide_eq_true h4
        repeat' (first | (with_reducible first | refine pa ?_ | refine pb ?_ | refine pc ?_ | refine nxt_n ?_ | refine nxt_e ?_ | refine nxt_r ?_ | refine blk_n ?_ | refine blk_r ?_ | refine blk_hit ?_ | refine blk_miss (by rfl) ?_ | refine pd ?_ | refine pe ?_ | refine pf ?_ | refine pg ?_ | apply And.intro) | (refine hK _ ?_; clear hK K hΘ Θ) | (with_reducible first | refine cw1 ?_ | refine cw2 ?_ | exact cw3 | exact cw4) | ((with_reducible first | refine cw5 (fun gg => ?_) | refine cw6 (fun gg => ?_) | refine cw7 (fun gg => ?_)); try simp only [gg]) | refine cs1 hG rfl ?_ ?_ | refine cs2 hG rfl ?_ ?_ | ((first | refine rga hG (by kernel_rfl) (fun Θ K hΘ hK => ?_) | refine rgb hG (by kernel_rfl) (fun Θ K hΘ hK => ?_)); simp (maxSteps := 2000000) only [go_sem, seval, reduceCtorEq, f1, f2, v1, v2, f3, f4]) | ((first | refine Post.splitN (fun gg => ?_) (fun gg => ?_) | refine Post.split (fun gg => ?_) (fun gg => ?_)) <;> simp (maxSteps := 2000000) only [go_sem, seval, reduceCtorEq, gg, f1, f2, v1, v2, f3, f4]) | (refine finR (by simp only [go_sem, seval, reduceCtorEq, f1, f2, v1, v2, f3, f4]; exact rfl) ?_; simp only [go_sem, seval, reduceCtorEq, f1, f2, v1, v2, f3, f4]) | refine updL hM ?_ (by omega) | (with_reducible exact fun _ _ => rfl))
        all_goals (first | omega | (simp only [decide_eq_true_eq, decide_eq_false_iff_not] at *; omega) | (simp only [List.length_append, List.length_cons, List.length_nil] <;> omega) | exact one_bv _ | exact one_sv _ | skip)
      · have f3 : (((n &&& (n - 1) : Nat) : Int) = 0) = False := eq_false (by intro h; exact h4 (h3.1 (by omega)))
        have f4 := decide_eq_false h4
        repeat' (first | (with_reducible first | refine pa ?_ | refine pb ?_ | refine pc ?_ | refine nxt_n ?_ | refine nxt_e ?_ | refine nxt_r ?_ | refine blk_n ?_ | refine blk_r ?_ | refine blk_hit ?_ | refine blk_miss (by rfl) ?_ | refine pd ?_ | refine pe ?_ | refine pf ?_ | refine pg ?_ | apply And.intro) | (refine hK _ ?_; clear hK K hΘ Θ) | (with_reducible first | refine cw1 ?_ | refine cw2 ?_ | exact cw3 | exact cw4) | ((with_reducible first | refine cw5 (fun gg => ?_) | refine cw6 (fun gg => ?_) | refine cw7 (fun gg => ?_)); try simp only [gg]) | refine cs1 hG rfl ?_ ?_ | refine cs2 hG rfl ?_ ?_ | ((first | refine rga hG (by kernel_rfl) (fun Θ K hΘ hK => ?_) | refine rgb hG (by kernel_rfl) (fun Θ K hΘ hK => ?_)); simp (maxSteps := 2000000) only [go_sem, seval, reduceCtorEq, f1, f2, v1, v2, f3, f4]) | ((first | refine Post.splitN (fun gg => ?_) (fun gg => ?_) | refine Post.split (fun gg => ?_) (fun gg => ?_)) <;> simp (maxSteps := 2000000) only [go_sem, seval, reduceCtorEq, gg, f1, f2, v1, v2, f3, f4]) | (refine finR (by simp only [go_sem, seval, reduceCtorEq, f1, f2, v1, v2, f3, f4]; exact rfl) ?_; simp only [go_sem, seval, reduceCtorEq, f1, f2, v1, v2, f3, f4]) | refine updL hM ?_ (by omega) | (with_reducible exact fun _ _ => rfl))
        all_goals (first | omega | (simp only [decide_eq_true_eq, decide_eq_false_iff_not] at *; omega) | (simp only [List.length_append, List.length_cons, List.length_nil] <;> omega) | exact one_bv _ | exact one_sv _ | skip)
    · have f2 : ((n : Int) ≤ 256) = False := eq_false (by omega)
      have f4 : decide (goodN n) = false := decide_eq_false (fun h => h2 (goodN_le h).2)
      repeat' (first | (with_reducible first | refine pa ?_ | refine pb ?_ | refine pc ?_ | refine nxt_n ?_ | refine nxt_e ?_ | refine nxt_r ?_ | refine blk_n ?_ | refine blk_r ?_ | refine blk_hit ?_ | refine blk_miss (by rfl) ?_ | refine pd ?_ | refine pe ?_ | refine pf ?_ | refine pg ?_ | apply And.intro) | (refine hK _ ?_; clear hK K hΘ Θ) | (with_reducible first | refine cw1 ?_ | refine cw2 ?_ | exact cw3 | exact cw4) | ((with_reducible first | refine cw5 (fun gg => ?_) | refine cw6 (fun gg => ?_) | refine cw7 (fun gg => ?_)); try simp only [gg]) | refine cs1 hG rfl ?_ ?_ | refine cs2 hG rfl ?_ ?_ | ((first | refine rga hG (by kernel_rfl) (fun Θ K hΘ hK => ?_) | refine rgb hG (by kernel_rfl) (fun Θ K hΘ hK => ?_)); simp (maxSteps := 2000000) only [go_sem, seval, reduceCtorEq, f1, f2, f4]) | ((first | refine Post.splitN (fun gg => ?_) (fun gg => ?_) | refine Post.split (fun gg => ?_) (fun gg => ?_)) <;> simp (maxSteps := 2000000) only [go_sem, seval, reduceCtorEq, gg, f1, f2, f4]) | (refine finR (by simp only [go_sem, seval, reduceCtorEq, f1, f2, f4]; exact rfl) ?_; simp only [go_sem, seval, reduceCtorEq, f1, f2, f4]) | refine updL hM ?_ (by omega) | (with_reducible exact fun _ _ => rfl))
      all_goals (first | omega | (simp only [decide_eq_true_eq, decide_eq_false_iff_not] at *; omega) | (simp only [List.length_append, List.length_cons, List.length_nil] <;> omega) | exact one_bv _ | exact one_sv _ | skip)
  · have f1 : ((0 : Int) < n) = False := eq_false (by omega)
    have f4 : decide (goodN n) = false := decide_eq_false (fun h => h1 (goodN_le h).1)
    repeat' (first | (with_reducible first | refine pa ?_ | refine pb ?_ | refine pc ?_ | refine nxt_n ?_ | refine nxt_e ?_ | refine nxt_r ?_ | refine blk_n ?_ | refine blk_r ?_ | refine blk_hit ?_ | refine blk_miss (by rfl) ?_ | refine pd ?_ | refine pe ?_ | refine pf ?_ | refine pg ?_ | apply And.intro) | (refine hK _ ?_; clear hK K hΘ Θ) | (with_reducible first | refine cw1 ?_ | refine cw2 ?_ | exact cw3 | exact cw4) | ((with_reducible first | refine cw5 (fun gg => ?_) | refine cw6 (fun gg => ?_) | refine cw7 (fun gg => ?_)); try simp only [gg]) | refine cs1 hG rfl ?_ ?_ | refine cs2 hG rfl ?_ ?_ | ((first | refine rga hG (by kernel_rfl) (fun Θ K hΘ hK => ?_) | refine rgb hG (by kernel_rfl) (fun Θ K hΘ hK => ?_)); simp (maxSteps := 2000000) only [go_sem, seval, reduceCtorEq, f1, f4]) | ((first | refine Post.splitN (fun gg => ?_) (fun gg => ?_) | refine Post.split (fun gg => ?_) (fun gg => ?_)) <;> simp (maxSteps := 2000000) only [go_sem, seval, reduceCtorEq, gg, f1, f4]) | (refine finR (by simp only [go_sem, seval, reduceCtorEq, f1, f4]; exact rfl) ?_; simp only [go_sem, seval, reduceCtorEq, f1, f4]) | refine updL hM ?_ (by omega) | (with_reducible exact fun _ _ => rfl))
    all_goals (first | omega | (simp only [decide_eq_true_eq, decide_eq_false_iff_not] at *; omega) | (simp only [List.length_append, List.length_cons, List.length_nil] <;> omega) | exact one_bv _ | exact one_sv _ | skip)
theorem riseN_0 (row : List Id16) (lv : Nat) : riseN row lv 0 = [] := rfl
theorem rise_sp (row : List Id16) (k : Nat) (he : row.length = 2 * k) (hb : row.length ≤ 1000) (lv : Nat) (hlv : lv ≤ 1000) : Rt 97 [.sl false 16 row.length (esC row), .flat (.int .i64 lv)] (.sl false 16 k (esC (riseN row lv k))) := by
  intro M mn
  refine fnL (C := kc 30 [13] []) (rs := [.tmp 4]) envOk Tryd.func97 (by kernel_rfl) rfl rfl rfl rfl rfl rfl (lowSl (esC_flat _)) ?_
  intro E hG hM
  repeat' (first | (with_reducible first | refine pa ?_ | refine pb ?_ | refine pc ?_ | refine nxt_n ?_ | refine nxt_e ?_ | refine nxt_r ?_ | refine blk_n ?_ | refine blk_r ?_ | refine blk_hit ?_ | refine blk_miss (by rfl) ?_ | refine pd ?_ | refine pe ?_ | refine pf ?_ | refine pg ?_ | apply And.intro) | (refine hK _ ?_; first | clear hK K hn0 hcl hΘ Θ | clear hK K hΘ Θ) | (with_reducible first | refine cw1 ?_ | refine cw2 ?_ | exact cw3 | exact cw4) | ((with_reducible first | refine cw5 (fun gg => ?_) | refine cw6 (fun gg => ?_) | refine cw7 (fun gg => ?_)); try simp only [gg]) | refine cs1 hG rfl ?_ ?_ | refine cs2 hG rfl ?_ ?_ | ((first | refine rga hG (by kernel_rfl) (fun Θ K hΘ hK => ?_) | refine rgb hG (by kernel_rfl) (fun Θ K hΘ hK => ?_) | refine rgc defCl hG (by kernel_rfl) cl0 (by rfl) (by kernel_rfl) (fun Θ K hΘ hcl hn0 hK => ?_) | refine rgd defCl hG (by kernel_rfl) cl0 (by rfl) (by kernel_rfl) (fun Θ K hΘ hcl hn0 hK => ?_)); simp (maxSteps := 2000000) only [go_sem, seval, reduceCtorEq, List.append_eq]) | ((first | refine Post.splitN (fun gg => ?_) (fun gg => ?_) | refine PostB.splitN (fun gg => ?_) (fun gg => ?_) | refine Post.split (fun gg => ?_) (fun gg => ?_) | refine PostB.split (fun gg => ?_) (fun gg => ?_)) <;> simp (maxSteps := 2000000) only [go_sem, seval, reduceCtorEq, List.append_eq, gg]) | (refine finR (by simp only [go_sem, seval, reduceCtorEq, List.append_eq]; exact rfl) ?_; simp only [go_sem, seval, reduceCtorEq, List.append_eq]) | refine updL hM ?_ (by omega) | (with_reducible exact fun _ _ => rfl))
  all_goals (first | omega | (simp only [decide_eq_true_eq, decide_eq_false_iff_not] at *; omega) | (simp only [List.length_append, List.length_cons, List.length_nil] <;> omega) | exact one_bv _ | exact one_sv _ | skip)
  refine WC.loopA (fun i : Nat => ⟨[(6, .flat (.int .i64 (2 * i : Nat))), (5, .sl true 16 i (esC (riseN row lv i))), (1, .flat (.int .i64 lv)), (0, .sl false 16 row.length (esC row))], M, mn⟩) (fun i => k - i) (fun i => i ≤ k) 0 (by omega) (sbs (by simp (maxSteps := 2000000) only [go_sem, seval, reduceCtorEq, List.append_eq, riseN_0, esC_nil]) rfl rfl) ?_
  intro i hi
  have hrl := riseN_len row lv i
  by_cases h : i < k
  · have f1 : (((2 * i : Nat) : Int) < row.length) = True := eq_true (by omega)
    have f2 : (2 * i < row.length) = True := eq_true (by omega)
    have f3 : (2 * i + 1 < row.length) = True := eq_true (by omega)
    have v1 : IntKind.i64.wrap (((2 * i : Nat) : Int) + 1) = ((2 * i + 1 : Nat) : Int) := by rw [wi (by omega) (by omega)]; omega
    have v2 : quoI .i64 ((2 * i : Nat) : Int) 2 = ((i : Nat) : Int) := by have := quoN (2 * i) 2 (by omega); rw [show ((2 : Nat) : Int) = 2 from rfl] at this; rw [this]; omega
    have v3 : IntKind.i64.wrap (((2 * i : Nat) : Int) + 2) = ((2 * (i + 1) : Nat) : Int) := by rw [wi (by omega) (by omega)]; omega
    have g1 := esC_get row (2 * i) (by omega)
    have g2 := esC_get row (2 * i + 1) (by omega)
    have hN := riseN_succ row lv i
    have hA := esC_app (riseN row lv i) (upE (row.getD (2 * i) z16) (row.getD (2 * i + 1) z16) lv i)
    repeat' (first | (with_reducible first | refine pa ?_ | refine pb ?_ | refine pc ?_ | refine nxt_n ?_ | refine nxt_e ?_ | refine nxt_r ?_ | refine blk_n ?_ | refine blk_r ?_ | refine blk_hit ?_ | refine blk_miss (by rfl) ?_ | refine pd ?_ | refine pe ?_ | refine pf ?_ | refine pg ?_ | apply And.intro) | (refine hK _ ?_; first | clear hK K hn0 hcl hΘ Θ | clear hK K hΘ Θ) | (with_reducible first | refine cw1 ?_ | refine cw2 ?_ | exact cw3 | exact cw4) | ((with_reducible first | refine cw5 (fun gg => ?_) | refine cw6 (fun gg => ?_) | refine cw7 (fun gg => ?_)); try simp only [gg]) | refine cs1 hG rfl ?_ ?_ | refine cs2 hG rfl ?_ ?_ | ((first | refine kf (fun M n => Up_sp (row.getD (2 * i) z16) (row.getD (2 * i + 1) z16) lv i (by omega) (by omega) M n) rfl (by decide) cl0 hΘ hcl hn0 ?_ | refine rga hG (by kernel_rfl) (fun Θ K hΘ hK => ?_) | refine rgb hG (by kernel_rfl) (fun Θ K hΘ hK => ?_) | refine rgc defCl hG (by kernel_rfl) cl0 (by rfl) (by kernel_rfl) (fun Θ K hΘ hcl hn0 hK => ?_) | refine rgd defCl hG (by kernel_rfl) cl0 (by rfl) (by kernel_rfl) (fun Θ K hΘ hcl hn0 hK => ?_)); simp (maxSteps := 2000000) only [go_sem, seval, reduceCtorEq, List.append_eq, f1, f2, f3, v1, v2, v3, g1, g2, hA, ← hN, hrl, Int.toNat_natCast]) | ((first | refine Post.splitN (fun gg => ?_) (fun gg => ?_) | refine PostB.splitN (fun gg => ?_) (fun gg => ?_) | refine Post.split (fun gg => ?_) (fun gg => ?_) | refine PostB.split (fun gg => ?_) (fun gg => ?_)) <;> simp (maxSteps := 2000000) only [go_sem, seval, reduceCtorEq, List.append_eq, gg, f1, f2, f3, v1, v2, v3, g1, g2, hA, ← hN, hrl, Int.toNat_natCast]) | (refine finR (by simp only [go_sem, seval, reduceCtorEq, List.append_eq, f1, f2, f3, v1, v2, v3, g1, g2, hA, ← hN, hrl, Int.toNat_natCast]; exact rfl) ?_; simp only [go_sem, seval, reduceCtorEq, List.append_eq, f1, f2, f3, v1, v2, v3, g1, g2, hA, ← hN, hrl, Int.toNat_natCast]) | refine updL hM ?_ (by omega) | (with_reducible exact fun _ _ => rfl))
    all_goals (first | omega | (simp only [decide_eq_true_eq, decide_eq_false_iff_not] at *; omega) | (simp only [List.length_append, List.length_cons, List.length_nil] <;> omega) | exact one_bv _ | exact one_sv _ | skip)
    exact ⟨i + 1, by omega, by omega, (sbs (by simp (maxSteps := 2000000) only [go_sem, seval, reduceCtorEq, List.append_eq]) rfl rfl)⟩
  · have f1 : (((2 * i : Nat) : Int) < row.length) = False := eq_false (by omega)
    have hik : i = k := by omega
    subst hik
    repeat' (first | (with_reducible first | refine pa ?_ | refine pb ?_ | refine pc ?_ | refine nxt_n ?_ | refine nxt_e ?_ | refine nxt_r ?_ | refine blk_n ?_ | refine blk_r ?_ | refine blk_hit ?_ | refine blk_miss (by rfl) ?_ | refine pd ?_ | refine pe ?_ | refine pf ?_ | refine pg ?_ | apply And.intro) | (refine hK _ ?_; first | clear hK K hn0 hcl hΘ Θ | clear hK K hΘ Θ) | (with_reducible first | refine cw1 ?_ | refine cw2 ?_ | exact cw3 | exact cw4) | ((with_reducible first | refine cw5 (fun gg => ?_) | refine cw6 (fun gg => ?_) | refine cw7 (fun gg => ?_)); try simp only [gg]) | refine cs1 hG rfl ?_ ?_ | refine cs2 hG rfl ?_ ?_ | ((first | refine rga hG (by kernel_rfl) (fun Θ K hΘ hK => ?_) | refine rgb hG (by kernel_rfl) (fun Θ K hΘ hK => ?_) | refine rgc defCl hG (by kernel_rfl) cl0 (by rfl) (by kernel_rfl) (fun Θ K hΘ hcl hn0 hK => ?_) | refine rgd defCl hG (by kernel_rfl) cl0 (by rfl) (by kernel_rfl) (fun Θ K hΘ hcl hn0 hK => ?_)); simp (maxSteps := 2000000) only [go_sem, seval, reduceCtorEq, List.append_eq, f1]) | ((first | refine Post.splitN (fun gg => ?_) (fun gg => ?_) | refine PostB.splitN (fun gg => ?_) (fun gg => ?_) | refine Post.split (fun gg => ?_) (fun gg => ?_) | refine PostB.split (fun gg => ?_) (fun gg => ?_)) <;> simp (maxSteps := 2000000) only [go_sem, seval, reduceCtorEq, List.append_eq, gg, f1]) | (refine finR (by simp only [go_sem, seval, reduceCtorEq, List.append_eq, f1]; exact rfl) ?_; simp only [go_sem, seval, reduceCtorEq, List.append_eq, f1]) | refine updL hM ?_ (by omega) | (with_reducible exact fun _ _ => rfl))
    all_goals (first | omega | (simp only [decide_eq_true_eq, decide_eq_false_iff_not] at *; omega) | (simp only [List.length_append, List.length_cons, List.length_nil] <;> omega) | exact one_bv _ | exact one_sv _ | skip)
theorem levelE_0 (l : List Id16) : levelE l 0 = l := rfl
theorem levelE_pow (l : List Id16) {H k : Nat} (hl : l.length = 2 ^ H) (hk : k ≤ H) : (levelE l k).length = 2 ^ (H - k) := by
  rw [levelE_len, hl, Nat.pow_div hk (by omega)]
theorem level_succ (l : List Id16) {H k : Nat} (hl : l.length = 2 ^ H) (hk : k < H) : (levelE l k).length = 2 * 2 ^ (H - (k + 1)) ∧ levelE l (k + 1) = riseN (levelE l k) (k + 1) (2 ^ (H - (k + 1))) := by
  have h := levelE_pow l hl (by omega : k ≤ H)
  have e : 2 ^ (H - k) = 2 * 2 ^ (H - (k + 1)) := by rw [show H - k = (H - (k + 1)) + 1 by omega, Nat.pow_succ]; omega
  refine ⟨by rw [h, e], ?_⟩
  rw [levelE, riseE, h, e, Nat.mul_div_cancel_left _ (by omega)]
theorem level_top (l : List Id16) {H k : Nat} (hl : l.length = 2 ^ H) (hk : k ≤ H) : (1 < (levelE l k).length ↔ k < H) := by
  rw [levelE_pow l hl hk]
  constructor
  · intro h
    rcases Nat.lt_or_ge k H with q | q
    · exact q
    · rw [show H - k = 0 by omega] at h; simp at h
  · intro h
    have : 2 ^ 1 ≤ 2 ^ (H - k) := Nat.pow_le_pow_right (by omega) (by omega)
    omega
theorem Root_sp (l : List Id16) (H : Nat) (hH : H ≤ 8) (hl : l.length = 2 ^ H) (hg : goodN l.length) : Rt 56 [.sl false 16 l.length (esC l)] (.tup [.agg (bv (atE l H 0).1), .flat (.int .i64 0)]) := by
  have f1 : decide (goodN l.length) = true := decide_eq_true hg
  have hb := goodN_le hg
  intro M mn
  refine fnL (C := kc 23 [] []) (rs := [.cell 2 31, .tmp 3]) envOk Tryd.func56 (by kernel_rfl) rfl rfl rfl rfl rfl rfl (lowTup (lowC1 (lowAgg (FlatS.bv _)) (lowC1 (Low.flat _) lowC0))) ?_
  intro E hG hM
  repeat' (first | (with_reducible first | refine pa ?_ | refine pb ?_ | refine pc ?_ | refine nxt_n ?_ | refine nxt_e ?_ | refine nxt_r ?_ | refine blk_n ?_ | refine blk_r ?_ | refine blk_hit ?_ | refine blk_miss (by rfl) ?_ | refine pd ?_ | refine pe ?_ | refine pf ?_ | refine pg ?_ | apply And.intro) | (refine hK _ ?_; clear hK K hΘ Θ) | (with_reducible first | refine cw1 ?_ | refine cw2 ?_ | exact cw3 | exact cw4) | ((with_reducible first | refine cw5 (fun gg => ?_) | refine cw6 (fun gg => ?_) | refine cw7 (fun gg => ?_)); try simp only [gg]) | refine cs1 hG rfl ?_ ?_ | refine cs2 hG rfl ?_ ?_ | ((first | refine kg (good_sp l.length (by omega) _ _) rfl hΘ ?_ | refine rga hG (by kernel_rfl) (fun Θ K hΘ hK => ?_) | refine rgb hG (by kernel_rfl) (fun Θ K hΘ hK => ?_)); simp (maxSteps := 2000000) only [go_sem, seval, reduceCtorEq, f1]) | ((first | refine Post.splitN (fun gg => ?_) (fun gg => ?_) | refine Post.split (fun gg => ?_) (fun gg => ?_)) <;> simp (maxSteps := 2000000) only [go_sem, seval, reduceCtorEq, gg, f1]) | (refine finR (by simp only [go_sem, seval, reduceCtorEq, f1]; exact rfl) ?_; simp only [go_sem, seval, reduceCtorEq, f1]) | refine updL hM ?_ (by omega) | (with_reducible exact fun _ _ => rfl))
  all_goals (first | omega | (simp only [decide_eq_true_eq, decide_eq_false_iff_not] at *; omega) | (simp only [List.length_append, List.length_cons, List.length_nil] <;> omega) | exact one_bv _ | exact one_sv _ | skip)
  refine WC.loopA (fun k : Nat => ⟨[(5, .flat (.int .i64 (k + 1 : Nat))), (4, .sl false 16 (levelE l k).length (esC (levelE l k))), (2, .bp mn 0)], upd M mn (some (bv z16.1)), mn + 1⟩) (fun k => H - k) (fun k => k ≤ H) 0 (by omega) (sbs (by simp (maxSteps := 2000000) only [go_sem, seval, reduceCtorEq, List.append_eq, levelE_0]) rfl rfl) ?_
  intro k hk
  have ht := level_top l hl hk
  have hlen := levelE_pow l hl hk
  have hle : 2 ^ (H - k) ≤ 256 := by have := Nat.pow_le_pow_right (n := 2) (by omega) (show H - k ≤ 8 by omega); simpa using this
  by_cases h : k < H
  · obtain ⟨q1, q2⟩ := level_succ l hl h
    have q3 := riseN_len (levelE l k) (k + 1) (2 ^ (H - (k + 1)))
    have g1 : ((1 : Int) < (levelE l k).length) = True := eq_true (by have := ht.2 h; omega)
    have v1 := wi1 (n := k + 1) (by omega)
    repeat' (first | (with_reducible first | refine pa ?_ | refine pb ?_ | refine pc ?_ | refine nxt_n ?_ | refine nxt_e ?_ | refine nxt_r ?_ | refine blk_n ?_ | refine blk_r ?_ | refine blk_hit ?_ | refine blk_miss (by rfl) ?_ | refine pd ?_ | refine pe ?_ | refine pf ?_ | refine pg ?_ | apply And.intro) | (refine hK _ ?_; clear hK K hΘ Θ) | (with_reducible first | refine cw1 ?_ | refine cw2 ?_ | exact cw3 | exact cw4) | ((with_reducible first | refine cw5 (fun gg => ?_) | refine cw6 (fun gg => ?_) | refine cw7 (fun gg => ?_)); try simp only [gg]) | refine cs1 hG rfl ?_ ?_ | refine cs2 hG rfl ?_ ?_ | ((first | refine kg (rise_sp (levelE l k) (2 ^ (H - (k + 1))) q1 (by omega) (k + 1) (by omega) _ _) rfl hΘ ?_ | refine rga hG (by kernel_rfl) (fun Θ K hΘ hK => ?_) | refine rgb hG (by kernel_rfl) (fun Θ K hΘ hK => ?_)); simp (maxSteps := 2000000) only [go_sem, seval, reduceCtorEq, g1, v1, ← q2]) | ((first | refine Post.splitN (fun gg => ?_) (fun gg => ?_) | refine Post.split (fun gg => ?_) (fun gg => ?_)) <;> simp (maxSteps := 2000000) only [go_sem, seval, reduceCtorEq, gg, g1, v1, ← q2]) | (refine finR (by simp only [go_sem, seval, reduceCtorEq, g1, v1, ← q2]; exact rfl) ?_; simp only [go_sem, seval, reduceCtorEq, g1, v1, ← q2]) | refine updL hM ?_ (by omega) | (with_reducible exact fun _ _ => rfl))
    all_goals (first | omega | (simp only [decide_eq_true_eq, decide_eq_false_iff_not] at *; omega) | (simp only [List.length_append, List.length_cons, List.length_nil] <;> omega) | exact one_bv _ | exact one_sv _ | skip)
    have q4 : (levelE l (k + 1)).length = 2 ^ (H - (k + 1)) := by rw [q2, q3]
    exact ⟨k + 1, by omega, by omega, (sbs (by simp (maxSteps := 2000000) only [go_sem, seval, reduceCtorEq, List.append_eq, q4]) rfl rfl)⟩
  · have g1 : ((1 : Int) < (levelE l k).length) = False := eq_false (by intro q; exact h (ht.1 (by omega)))
    have g0 : 0 < (levelE l k).length := by rw [hlen]; exact Nat.pow_pos (by omega)
    have g2 := eq_true g0
    have e : k = H := by omega
    subst e
    have g3 := esC_get (levelE l k) 0 g0
    rw [level_at l k 0 (by rw [hl, Nat.div_self (Nat.pow_pos (by omega))]; omega)] at g3
    rw [Nat.zero_mul, List.drop_zero] at g3
    repeat' (first | (with_reducible first | refine pa ?_ | refine pb ?_ | refine pc ?_ | refine nxt_n ?_ | refine nxt_e ?_ | refine nxt_r ?_ | refine blk_n ?_ | refine blk_r ?_ | refine blk_hit ?_ | refine blk_miss (by rfl) ?_ | refine pd ?_ | refine pe ?_ | refine pf ?_ | refine pg ?_ | apply And.intro) | (refine hK _ ?_; clear hK K hΘ Θ) | (with_reducible first | refine cw1 ?_ | refine cw2 ?_ | exact cw3 | exact cw4) | ((with_reducible first | refine cw5 (fun gg => ?_) | refine cw6 (fun gg => ?_) | refine cw7 (fun gg => ?_)); try simp only [gg]) | refine cs1 hG rfl ?_ ?_ | refine cs2 hG rfl ?_ ?_ | ((first | refine rga hG (by kernel_rfl) (fun Θ K hΘ hK => ?_) | refine rgb hG (by kernel_rfl) (fun Θ K hΘ hK => ?_)); simp (maxSteps := 2000000) only [go_sem, seval, reduceCtorEq, g1, g2, g3]) | ((first | refine Post.splitN (fun gg => ?_) (fun gg => ?_) | refine Post.split (fun gg => ?_) (fun gg => ?_)) <;> simp (maxSteps := 2000000) only [go_sem, seval, reduceCtorEq, gg, g1, g2, g3]) | (refine finR (by simp only [go_sem, seval, reduceCtorEq, g1, g2, g3]; exact rfl) ?_; simp only [go_sem, seval, reduceCtorEq, g1, g2, g3]) | refine updL hM ?_ (by omega) | (with_reducible exact fun _ _ => rfl))
    all_goals (first | omega | (simp only [decide_eq_true_eq, decide_eq_false_iff_not] at *; omega) | (simp only [List.length_append, List.length_cons, List.length_nil] <;> omega) | exact one_bv _ | exact one_sv _ | skip)
end Go.VL

set_option linter.unusedVariables false
set_option linter.unusedSimpArgs false
set_option maxRecDepth 100000
set_option maxHeartbeats 8000000
open Go.RowKit
namespace Go.VL
open Go.Proofs
end Go.VL

set_option linter.unusedVariables false
set_option linter.unusedSimpArgs false
set_option maxRecDepth 100000
set_option maxHeartbeats 8000000
open Go.RowKit
namespace Go.VL
open Go.Proofs
end Go.VL

set_option linter.unusedVariables false
set_option linter.unusedSimpArgs false
set_option maxRecDepth 100000
set_option maxHeartbeats 8000000
open Go.RowKit
namespace Go.VL
open Go.Proofs
theorem New_sp (s : List UInt8) (h : Nat) (hs : s.length ≤ 64) (h1 : 1 ≤ h) (h8 : h ≤ 8) (M : Mem) (mn : Nat) : Sp Tryd.prog GL 15 [.flat (.string (bs s)), .flat (.int .i64 h)] M mn (fun r m k => r = .tup [.bp mn 0, .flat (.int .i64 0)] ∧ m = upd M mn (some (kyV s h).c) ∧ k = mn + 1) := by
  have f1 : ((s.length : Int) > 64) = False := eq_false (by omega)
  have f2 : ((h : Int) < 1) = False := eq_false (by omega)
  have f3 : ((h : Int) > 8) = False := eq_false (by omega)
  have v1 := shl_1 h h8
  have hp := pow_le8 h h8
  have kz1 : ky0.leaves = V.nil := rfl
  have kz2 : ky0.root = z16 := rfl
  have kz3 : ({ seed := s, height := (h : Int), leaves := V.nil, root := z16 } : Ky).z = { seed := s, height := (h : Int), leaves := V.nil, root := z16 } := rfl
  have kz4 : noOwnB V.nil = true := rfl
  refine fnP (C := kc 53 [32, 37] []) (rs := [.tmp 4, .tmp 5]) envOk Tryd.func15 (by kernel_rfl) rfl rfl rfl rfl rfl rfl ?_
  intro E hG hM
  repeat' (first | (with_reducible first | refine pa ?_ | refine pb ?_ | refine pc ?_ | refine nxt_n ?_ | refine nxt_e ?_ | refine nxt_r ?_ | refine blk_n ?_ | refine blk_r ?_ | refine blk_hit ?_ | refine blk_miss (by rfl) ?_ | refine pd ?_ | refine pe ?_ | refine pf ?_ | refine pg ?_ | apply And.intro) | (refine hK _ ?_; first | clear hK K hn0 hcl hΘ Θ | clear hK K hΘ Θ) | (with_reducible first | refine cw1 ?_ | refine cw2 ?_ | exact cw3 | exact cw4) | ((with_reducible first | refine cw5 (fun gg => ?_) | refine cw6 (fun gg => ?_) | refine cw7 (fun gg => ?_)); try simp only [gg]) | refine cs1 hG rfl ?_ ?_ | refine cs2 hG rfl ?_ ?_ | ((first | refine rga hG (by kernel_rfl) (fun Θ K hΘ hK => ?_) | refine rgb hG (by kernel_rfl) (fun Θ K hΘ hK => ?_) | refine rgc defCl hG (by kernel_rfl) cl0 (by rfl) (by kernel_rfl) (fun Θ K hΘ hcl hn0 hK => ?_) | refine rgd defCl hG (by kernel_rfl) cl0 (by rfl) (by kernel_rfl) (fun Θ K hΘ hcl hn0 hK => ?_)); simp (maxSteps := 2000000) only [go_sem, seval, reduceCtorEq, List.append_eq, f1, f2, f3, v1, kz1, kz2, kz3, kz4]) | ((first | refine Post.splitN (fun gg => ?_) (fun gg => ?_) | refine PostB.splitN (fun gg => ?_) (fun gg => ?_) | refine Post.split (fun gg => ?_) (fun gg => ?_) | refine PostB.split (fun gg => ?_) (fun gg => ?_)) <;> simp (maxSteps := 2000000) only [go_sem, seval, reduceCtorEq, List.append_eq, gg, f1, f2, f3, v1, kz1, kz2, kz3, kz4]) | (refine finR (by simp only [go_sem, seval, reduceCtorEq, List.append_eq, f1, f2, f3, v1, kz1, kz2, kz3, kz4]; exact rfl) ?_; simp only [go_sem, seval, reduceCtorEq, List.append_eq, f1, f2, f3, v1, kz1, kz2, kz3, kz4]) | refine updL hM ?_ (by omega) | (with_reducible exact fun _ _ => rfl))
  all_goals (first | omega | (simp only [decide_eq_true_eq, decide_eq_false_iff_not] at *; omega) | (simp only [List.length_append, List.length_cons, List.length_nil] <;> omega) | exact one_bv _ | exact one_sv _ | skip)
  refine WC.cellNil 16 (b := mn) (off := 2) (l := Ky.c ⟨s, h, .nil, z16⟩) ?_ (by simp [Ky.c_len]) (Ky.r2 _) ?_
  · exact upd_same _ _ _
  simp only [upd_upd, Ky.w2]
  refine WC.loopA (fun i : Nat => ⟨[(25, .flat (.int .i64 i)), (24, .flat (.int .i64 (2 ^ h : Nat))), (6, .bp mn 0), (1, .flat (.int .i64 h)), (0, .flat (.string (bs s)))], upd M mn (some (Ky.c ⟨s, h, .sl true 16 i (esC (leafN s i)), z16⟩)), mn + 1⟩) (fun i => 2 ^ h - i) (fun i => i ≤ 2 ^ h) 0 (Nat.zero_le _) (sbs (by simp (maxSteps := 2000000) only [go_sem, seval, reduceCtorEq, List.append_eq, leafN_0, esC_nil]) rfl rfl) ?_
  intro i hi
  by_cases hlt : i < 2 ^ h
  · have g1 : ((i : Int) < ((2 ^ h : Nat) : Int)) = True := eq_true (by omega)
    have v2 := wi1 (n := i) (by omega)
    have hc : inR (i : Int) := by unfold inR; omega
    have hA := esC_app (leafN s i) (keyE s i)
    rw [← leafN_succ] at hA
    have hl := leafN_len s i
    repeat' (first | (with_reducible first | refine pa ?_ | refine pb ?_ | refine pc ?_ | refine nxt_n ?_ | refine nxt_e ?_ | refine nxt_r ?_ | refine blk_n ?_ | refine blk_r ?_ | refine blk_hit ?_ | refine blk_miss (by rfl) ?_ | refine pd ?_ | refine pe ?_ | refine pf ?_ | refine pg ?_ | apply And.intro) | (refine hK _ ?_; first | clear hK K hn0 hcl hΘ Θ | clear hK K hΘ Θ) | (with_reducible first | refine cw1 ?_ | refine cw2 ?_ | exact cw3 | exact cw4) | ((with_reducible first | refine cw5 (fun gg => ?_) | refine cw6 (fun gg => ?_) | refine cw7 (fun gg => ?_)); try simp only [gg]) | refine cs1 hG rfl ?_ ?_ | refine cs2 hG rfl ?_ ?_ | ((first | refine kf (fun M n => Leaf_sp s (by omega) i hc M n) rfl (by decide) (clW_le (by rfl)) hΘ hcl hn0 ?_ | refine rga hG (by kernel_rfl) (fun Θ K hΘ hK => ?_) | refine rgb hG (by kernel_rfl) (fun Θ K hΘ hK => ?_) | refine rgc (clW [(4, 2)] defCl) hG (by kernel_rfl) (clW_le (by rfl)) (by rfl) (by kernel_rfl) (fun Θ K hΘ hcl hn0 hK => ?_) | refine rgd (clW [(4, 2)] defCl) hG (by kernel_rfl) (clW_le (by rfl)) (by rfl) (by kernel_rfl) (fun Θ K hΘ hcl hn0 hK => ?_)); simp (maxSteps := 2000000) only [go_sem, seval, reduceCtorEq, List.append_eq, g1, v2, hA, hl]) | ((first | refine Post.splitN (fun gg => ?_) (fun gg => ?_) | refine PostB.splitN (fun gg => ?_) (fun gg => ?_) | refine Post.split (fun gg => ?_) (fun gg => ?_) | refine PostB.split (fun gg => ?_) (fun gg => ?_)) <;> simp (maxSteps := 2000000) only [go_sem, seval, reduceCtorEq, List.append_eq, gg, g1, v2, hA, hl]) | (refine finR (by simp only [go_sem, seval, reduceCtorEq, List.append_eq, g1, v2, hA, hl]; exact rfl) ?_; simp only [go_sem, seval, reduceCtorEq, List.append_eq, g1, v2, hA, hl]) | refine updL hM ?_ (by omega) | (with_reducible exact fun _ _ => rfl))
    all_goals (first | omega | (simp only [decide_eq_true_eq, decide_eq_false_iff_not] at *; omega) | (simp only [List.length_append, List.length_cons, List.length_nil] <;> omega) | exact one_bv _ | exact one_sv _ | skip)
    exact ⟨i + 1, by omega, by omega, (sbs (by simp (maxSteps := 2000000) only [go_sem, seval, reduceCtorEq, List.append_eq]) rfl rfl)⟩
  · have g1 : ((i : Int) < ((2 ^ h : Nat) : Int)) = False := eq_false (by omega)
    have e : i = 2 ^ h := by omega
    have hl := leafN_len s (2 ^ h)
    have hR := Root_sp (leafN s (2 ^ h)) h h8 hl (by rw [hl]; exact goodN_two h h8)
    rw [hl] at hR
    have hrk : atE (leafN s (2 ^ h)) h 0 = rootK s h := rfl
    rw [hrk] at hR
    rw [e]
    rw [e] at g1
    repeat' (first | (with_reducible first | refine pa ?_ | refine pb ?_ | refine pc ?_ | refine nxt_n ?_ | refine nxt_e ?_ | refine nxt_r ?_ | refine blk_n ?_ | refine blk_r ?_ | refine blk_hit ?_ | refine blk_miss (by rfl) ?_ | refine pd ?_ | refine pe ?_ | refine pf ?_ | refine pg ?_ | apply And.intro) | (refine hK _ ?_; first | clear hK K hn0 hcl hΘ Θ | clear hK K hΘ Θ) | (with_reducible first | refine cw1 ?_ | refine cw2 ?_ | exact cw3 | exact cw4) | ((with_reducible first | refine cw5 (fun gg => ?_) | refine cw6 (fun gg => ?_) | refine cw7 (fun gg => ?_)); try simp only [gg]) | refine cs1 hG rfl ?_ ?_ | refine cs2 hG rfl ?_ ?_ | ((first | refine kg (hR _ _) rfl hΘ ?_ | refine kf (fun M n => hR M n) rfl (by decide) cl0 hΘ hcl hn0 ?_ | refine rga hG (by kernel_rfl) (fun Θ K hΘ hK => ?_) | refine rgb hG (by kernel_rfl) (fun Θ K hΘ hK => ?_) | refine rgc defCl hG (by kernel_rfl) cl0 (by rfl) (by kernel_rfl) (fun Θ K hΘ hcl hn0 hK => ?_) | refine rgd defCl hG (by kernel_rfl) cl0 (by rfl) (by kernel_rfl) (fun Θ K hΘ hcl hn0 hK => ?_)); simp (maxSteps := 2000000) only [go_sem, seval, reduceCtorEq, List.append_eq, g1, hl]) | ((first | refine Post.splitN (fun gg => ?_) (fun gg => ?_) | refine PostB.splitN (fun gg => ?_) (fun gg => ?_) | refine Post.split (fun gg => ?_) (fun gg => ?_) | refine PostB.split (fun gg => ?_) (fun gg => ?_)) <;> simp (maxSteps := 2000000) only [go_sem, seval, reduceCtorEq, List.append_eq, gg, g1, hl]) | (refine finR (by simp only [go_sem, seval, reduceCtorEq, List.append_eq, g1, hl]; exact rfl) ?_; simp only [go_sem, seval, reduceCtorEq, List.append_eq, g1, hl]) | refine updL hM ?_ (by omega) | (with_reducible exact fun _ _ => rfl))
    all_goals (first | omega | (simp only [decide_eq_true_eq, decide_eq_false_iff_not] at *; omega) | (simp only [List.length_append, List.length_cons, List.length_nil] <;> omega) | exact one_bv _ | exact one_sv _ | skip)
    all_goals rfl
theorem Count_sp (b : Nat) (s : List UInt8) (h : Nat) (h8 : h ≤ 8) (M : Mem) (mn : Nat) (hb : M b = some (kyV s h).c) : Sp Tryd.prog GL 17 [.bp b 0] M mn (fun r m k => r = .flat (.int .i64 (2 ^ h : Nat)) ∧ m = M ∧ k = mn) := by
  have v1 := shl_1 h h8
  have hk : (kyV s h).height = h := rfl
  refine fnP (C := kc 10 [] []) (rs := [.tmp 2]) envOk Tryd.func17 (by kernel_rfl) rfl rfl rfl rfl rfl rfl ?_
  intro E hG hM
  repeat' (first | (with_reducible first | refine pa ?_ | refine pb ?_ | refine pc ?_ | refine nxt_n ?_ | refine nxt_e ?_ | refine nxt_r ?_ | refine blk_n ?_ | refine blk_r ?_ | refine blk_hit ?_ | refine blk_miss (by rfl) ?_ | refine pd ?_ | refine pe ?_ | refine pf ?_ | refine pg ?_ | apply And.intro) | (refine hK _ ?_; clear hK K hΘ Θ) | (with_reducible first | refine cw1 ?_ | refine cw2 ?_ | exact cw3 | exact cw4) | ((with_reducible first | refine cw5 (fun gg => ?_) | refine cw6 (fun gg => ?_) | refine cw7 (fun gg => ?_)); try simp only [gg]) | refine cs1 hG rfl ?_ ?_ | refine cs2 hG rfl ?_ ?_ | ((first | refine rga hG (by kernel_rfl) (fun Θ K hΘ hK => ?_) | refine rgb hG (by kernel_rfl) (fun Θ K hΘ hK => ?_)); simp (maxSteps := 2000000) only [go_sem, seval, reduceCtorEq, hb, v1, hk]) | ((first | refine Post.splitN (fun gg => ?_) (fun gg => ?_) | refine Post.split (fun gg => ?_) (fun gg => ?_)) <;> simp (maxSteps := 2000000) only [go_sem, seval, reduceCtorEq, gg, hb, v1, hk]) | (refine finR (by simp only [go_sem, seval, reduceCtorEq, hb, v1, hk]; exact rfl) ?_; simp only [go_sem, seval, reduceCtorEq, hb, v1, hk]) | refine updL hM ?_ (by omega) | (with_reducible exact fun _ _ => rfl))
  all_goals (first | omega | (simp only [decide_eq_true_eq, decide_eq_false_iff_not] at *; omega) | (simp only [List.length_append, List.length_cons, List.length_nil] <;> omega) | exact one_bv _ | exact one_sv _ | skip)
theorem box_lt {M : Mem} {mn b : Nat} {l : List V} (hM : ∀ k, mn ≤ k → M k = none) (hb : M b = some l) : b < mn := Nat.lt_of_not_le (fun q => by rw [hM b q] at hb; cases hb)
end Go.VL

set_option linter.unusedVariables false
set_option linter.unusedSimpArgs false
set_option maxRecDepth 100000
set_option maxHeartbeats 8000000
open Go.RowKit
namespace Go.VL
open Go.Proofs
end Go.VL

set_option linter.unusedVariables false
set_option linter.unusedSimpArgs false
set_option maxRecDepth 100000
set_option maxHeartbeats 8000000
open Go.RowKit
namespace Go.VL
open Go.Proofs
theorem CLink_sp (p : Id32) (q : Int) (hq : inR q) (e : Ent) (he : e.ok) : Rt 48 [.agg (bv p.1), .flat (.int .i64 q), .agg e.c] (.agg (bv (linkE p q e).1)) := by
  have n1 : q < 9223372036854775808 := by have := hq.2; omega
  have ht := link_tot p q hq he
  have tb := take_bv32 p
  have hp := p.2
  have tl := take_bv32 (linkE p q e)
  have hS : Rt 63 [.flat (.string (bs [108, 105, 110, 107])), .sl false 1 3 (sv [p.1, numB q.toNat, e.text])] (.agg (bv (linkE p q e).1)) := Sum_sp [108, 105, 110, 107] (linkP p q e) (by simp) (by omega) (by simp [linkP])
  generalize linkE p q e = L at *
  intro M mn
  refine fnL (C := kc 15 [] []) (rs := [.cell 6 52]) envOk Tryd.func48 (by kernel_rfl) rfl rfl rfl rfl rfl rfl (lowAgg (FlatS.bv _)) ?_
  intro E hG hM
  repeat' (first | (with_reducible first | refine pa ?_ | refine pb ?_ | refine pc ?_ | refine nxt_n ?_ | refine nxt_e ?_ | refine nxt_r ?_ | refine blk_n ?_ | refine blk_r ?_ | refine blk_hit ?_ | refine blk_miss (by rfl) ?_ | refine pd ?_ | refine pe ?_ | refine pf ?_ | refine pg ?_ | apply And.intro) | (refine hK _ ?_; first | clear hK K hn0 hcl hΘ Θ | clear hK K hΘ Θ) | (with_reducible first | refine cw1 ?_ | refine cw2 ?_ | exact cw3 | exact cw4) | ((with_reducible first | refine cw5 (fun gg => ?_) | refine cw6 (fun gg => ?_) | refine cw7 (fun gg => ?_)); try simp only [gg]) | refine cs1 hG rfl ?_ ?_ | refine cs2 hG rfl ?_ ?_ | ((first | refine kf (fun M n => Num_sp q n1 M n) rfl (by decide) cl0 hΘ hcl hn0 ?_ | refine kf (fun M n => EText_sp e he M n) rfl (by decide) cl0 hΘ hcl hn0 ?_ | refine kf (fun M n => hS M n) rfl (by decide) cl0 hΘ hcl hn0 ?_ | refine rga hG (by kernel_rfl) (fun Θ K hΘ hK => ?_) | refine rgb hG (by kernel_rfl) (fun Θ K hΘ hK => ?_) | refine rgc defCl hG (by kernel_rfl) cl0 (by rfl) (by kernel_rfl) (fun Θ K hΘ hcl hn0 hK => ?_) | refine rgd defCl hG (by kernel_rfl) cl0 (by rfl) (by kernel_rfl) (fun Θ K hΘ hcl hn0 hK => ?_)); simp (maxSteps := 2000000) only [go_sem, seval, reduceCtorEq, tb, tl, hp]) | ((first | refine Post.splitN (fun gg => ?_) (fun gg => ?_) | refine PostB.splitN (fun gg => ?_) (fun gg => ?_) | refine Post.split (fun gg => ?_) (fun gg => ?_) | refine PostB.split (fun gg => ?_) (fun gg => ?_)) <;> simp (maxSteps := 2000000) only [go_sem, seval, reduceCtorEq, gg, tb, tl, hp]) | (refine finR (by simp only [go_sem, seval, reduceCtorEq, tb, tl, hp]; exact rfl) ?_; simp only [go_sem, seval, reduceCtorEq, tb, tl, hp]) | refine updL hM ?_ (by omega) | (with_reducible exact fun _ _ => rfl))
  all_goals (first | omega | (simp only [decide_eq_true_eq, decide_eq_false_iff_not] at *; omega) | (simp only [List.length_append, List.length_cons, List.length_nil] <;> omega) | exact one_bv _ | exact one_sv _ | skip)
theorem CWord_sp (z q : Int) (hn : inR z) (hq : inR q) (h : Id32) : Rt 36 [.flat (.int .i64 z), .flat (.int .i64 q), .agg (bv h.1)] (.flat (.string (bs (wordB z q h)))) := by
  have n1 : z < 9223372036854775808 := by have := hn.2; omega
  have n2 : q < 9223372036854775808 := by have := hq.2; omega
  have ht := word_tot z q h hn hq
  have tb := take_bv32 h
  have hp := h.2
  have hL : Rt 77 [.sl false 1 4 (sv [[119, 111, 114, 100], numB z.toNat, numB q.toNat, h.1])] (.flat (.string (bs (wordB z q h)))) := List_sp (wordP z q h) (by omega) (by omega)
  intro M mn
  refine fnL (C := kc 15 [] []) (rs := [.tmp 6]) envOk Tryd.func36 (by kernel_rfl) rfl rfl rfl rfl rfl rfl (Low.flat _) ?_
  intro E hG hM
  repeat' (first | (with_reducible first | refine pa ?_ | refine pb ?_ | refine pc ?_ | refine nxt_n ?_ | refine nxt_e ?_ | refine nxt_r ?_ | refine blk_n ?_ | refine blk_r ?_ | refine blk_hit ?_ | refine blk_miss (by rfl) ?_ | refine pd ?_ | refine pe ?_ | refine pf ?_ | refine pg ?_ | apply And.intro) | (refine hK _ ?_; first | clear hK K hn0 hcl hΘ Θ | clear hK K hΘ Θ) | (with_reducible first | refine cw1 ?_ | refine cw2 ?_ | exact cw3 | exact cw4) | ((with_reducible first | refine cw5 (fun gg => ?_) | refine cw6 (fun gg => ?_) | refine cw7 (fun gg => ?_)); try simp only [gg]) | refine cs1 hG rfl ?_ ?_ | refine cs2 hG rfl ?_ ?_ | ((first | refine kf (fun M n => Num_sp z n1 M n) rfl (by decide) cl0 hΘ hcl hn0 ?_ | refine kf (fun M n => Num_sp q n2 M n) rfl (by decide) cl0 hΘ hcl hn0 ?_ | refine kf (fun M n => hL M n) rfl (by decide) cl0 hΘ hcl hn0 ?_ | refine rga hG (by kernel_rfl) (fun Θ K hΘ hK => ?_) | refine rgb hG (by kernel_rfl) (fun Θ K hΘ hK => ?_) | refine rgc defCl hG (by kernel_rfl) cl0 (by rfl) (by kernel_rfl) (fun Θ K hΘ hcl hn0 hK => ?_) | refine rgd defCl hG (by kernel_rfl) cl0 (by rfl) (by kernel_rfl) (fun Θ K hΘ hcl hn0 hK => ?_)); simp (maxSteps := 2000000) only [go_sem, seval, reduceCtorEq, tb, hp]) | ((first | refine Post.splitN (fun gg => ?_) (fun gg => ?_) | refine PostB.splitN (fun gg => ?_) (fun gg => ?_) | refine Post.split (fun gg => ?_) (fun gg => ?_) | refine PostB.split (fun gg => ?_) (fun gg => ?_)) <;> simp (maxSteps := 2000000) only [go_sem, seval, reduceCtorEq, gg, tb, hp]) | (refine finR (by simp only [go_sem, seval, reduceCtorEq, tb, hp]; exact rfl) ?_; simp only [go_sem, seval, reduceCtorEq, tb, hp]) | refine updL hM ?_ (by omega) | (with_reducible exact fun _ _ => rfl))
  all_goals (first | omega | (simp only [decide_eq_true_eq, decide_eq_false_iff_not] at *; omega) | (simp only [List.length_append, List.length_cons, List.length_nil] <;> omega) | exact one_bv _ | exact one_sv _ | skip)
theorem ids_app (l : List Id32) (x : Id32) : idsC l ++ bv x.1 = idsC (l ++ [x]) := by simp [idsC]
theorem ids_len (l : List Id32) : (idsC l).length = l.length * 32 := by
  unfold idsC
  rw [flatten_len 32 _ (fun c hc => by obtain ⟨x, _, rfl⟩ := List.mem_map.1 hc; rw [bv_length]; exact x.2), List.length_map]
theorem CWalk_sp (p : Id32) (q : Int) (l : List Ent) (hok : ∀ e ∈ l, e.ok) (hl : l.length ≤ 1000000) (hq : inR q) (hq2 : q ≤ 9223372036853000000) : Rt 31 [.agg (bv p.1), .flat (.int .i64 q), .sl false 73 l.length (Ent.lC l)] (.sl false 32 l.length (idsC (walkL p q l))) := by
  have q1 := hq.1
  have tbp : ∀ x : Id32, (bv x.1).take 32 = bv x.1 := take_bv32
  have hp : ∀ x : Id32, x.1.length = 32 := fun x => x.2
  intro M mn
  refine fnLS (C := kc 29 [23] []) (rs := [.tmp 6]) envOk Tryd.func31 (by kernel_rfl) rfl rfl rfl rfl rfl rfl (lowSl (idsC_flat _)) ?_
  intro E hG hM
  repeat' (first | (with_reducible first | refine pa ?_ | refine pb ?_ | refine pc ?_ | refine nxt_n ?_ | refine nxt_e ?_ | refine nxt_r ?_ | refine blk_n ?_ | refine blk_r ?_ | refine blk_hit ?_ | refine blk_miss (by rfl) ?_ | refine pd ?_ | refine pe ?_ | refine pf ?_ | refine pg ?_ | apply And.intro) | (refine hK _ ?_; clear hK K hΘ Θ) | (with_reducible first | refine cw1 ?_ | refine cw2 ?_ | exact cw3 | exact cw4) | ((with_reducible first | refine cw5 (fun gg => ?_) | refine cw6 (fun gg => ?_) | refine cw7 (fun gg => ?_)); try simp only [gg]) | refine cs1 hG rfl ?_ ?_ | refine cs2 hG rfl ?_ ?_ | ((first | refine rga hG (by kernel_rfl) (fun Θ K hΘ hK => ?_) | refine rgb hG (by kernel_rfl) (fun Θ K hΘ hK => ?_)); simp (maxSteps := 2000000) only [go_sem, seval, reduceCtorEq, List.append_eq]) | ((first | refine Post.splitN (fun gg => ?_) (fun gg => ?_) | refine Post.split (fun gg => ?_) (fun gg => ?_)) <;> simp (maxSteps := 2000000) only [go_sem, seval, reduceCtorEq, List.append_eq, gg]) | (refine finR (by simp only [go_sem, seval, reduceCtorEq, List.append_eq]; exact rfl) ?_; simp only [go_sem, seval, reduceCtorEq, List.append_eq]) | refine updL hM ?_ (by omega) | (with_reducible exact fun _ _ => rfl))
  all_goals (first | omega | (simp only [decide_eq_true_eq, decide_eq_false_iff_not] at *; omega) | (simp only [List.length_append, List.length_cons, List.length_nil] <;> omega) | exact one_bv _ | exact one_sv _ | skip)
  refine WC.loopA (fun s : Nat × Mem × Nat => ⟨[(12, .flat (.int .i64 s.1)), (11, .flat (.int .i64 l.length)), (10, .sl false 73 l.length (Ent.lC l)), (7, .sl true 32 s.1 (idsC (walkL p q (l.take s.1)))), (3, .bp mn 0), (1, .flat (.int .i64 q))], s.2.1, s.2.2⟩) (fun s => l.length - s.1) (fun s => s.1 ≤ l.length ∧ (∀ b, M b ≠ none → s.2.1 b = M b) ∧ mn + 1 ≤ s.2.2 ∧ s.2.1 mn = some (bv (lastL p q (l.take s.1)).1)) (0, upd M mn (some (bv p.1)), mn + 1) ⟨by simp only; omega, updL hM (fun _ _ => rfl) (Nat.le_refl _), Nat.le_refl _, by simp [upd, lastL_nil]⟩ (sbs (by simp (maxSteps := 2000000) only [go_sem, seval, reduceCtorEq, List.append_eq, List.take_zero, walkL, idsC_nil]) rfl rfl) ?_
  rintro ⟨i, μ, n⟩ ⟨hi, hk, hn, hb⟩
  simp only at hi hk hn hb ⊢
  by_cases h : i < l.length
  · have f1 : ((i : Int) < (l.length : Int)) = True := eq_true (by omega)
    have g1 : (i < l.length) = True := eq_true h
    have v1 := wi1 (n := i) (by omega)
    have v2 : IntKind.i64.wrap (q + (i : Int)) = q + (i : Int) := wi (by omega) (by omega)
    have he : (l.getD i ent0).ok := hok _ (by rw [List.getD_eq_getElem?_getD, List.getElem?_eq_getElem h]; exact List.getElem_mem _)
    have hgt := Ent.l_get l ent0 i h
    have hll := Ent.l_len l
    have ht1 := Ent.tk (l.getD i ent0)
    have g2 : (i * 73 + 73 ≤ l.length * 73) = True := eq_true (by omega)
    have hL := CLink_sp (lastL p q (l.take i)) (q + i) (by unfold inR; omega) (l.getD i ent0) he
    have hw := walkL_take l p q i ent0 h
    have hla := lastL_take l p q i ent0 h
    have hA := ids_app (walkL p q (l.take i)) (linkE (lastL p q (l.take i)) (q + i) (l.getD i ent0))
    rw [← hw] at hA
    have hil := ids_len (walkL p q (l.take i))
    rw [walkL_len, List.length_take, Nat.min_eq_left (by omega)] at hil
    have hnm : n ≠ mn := by omega
    have u1 : ∀ (A : Mem) z, upd A n z mn = A mn := fun A z => upd_ne _ _ (by omega)
    have u2 : ∀ (A : Mem) z, upd A mn z n = A n := fun A z => upd_ne _ _ (by omega)
    rw [← hla] at hL hA
    repeat' (first | (with_reducible first | refine pa ?_ | refine pb ?_ | refine pc ?_ | refine nxt_n ?_ | refine nxt_e ?_ | refine nxt_r ?_ | refine blk_n ?_ | refine blk_r ?_ | refine blk_hit ?_ | refine blk_miss (by rfl) ?_ | refine pd ?_ | refine pe ?_ | refine pf ?_ | refine pg ?_ | apply And.intro) | (refine hK _ ?_; clear hK K hΘ Θ) | (with_reducible first | refine cw1 ?_ | refine cw2 ?_ | exact cw3 | exact cw4) | ((with_reducible first | refine cw5 (fun gg => ?_) | refine cw6 (fun gg => ?_) | refine cw7 (fun gg => ?_)); try simp only [gg]) | refine cs1 hG rfl ?_ ?_ | refine cs2 hG rfl ?_ ?_ | ((first | refine kg (hL _ _) rfl hΘ ?_ | refine rga hG (by kernel_rfl) (fun Θ K hΘ hK => ?_) | refine rgb hG (by kernel_rfl) (fun Θ K hΘ hK => ?_)); simp (maxSteps := 2000000) only [go_sem, seval, reduceCtorEq, List.append_eq, f1, g1, v1, v2, hgt, hll, ht1, g2, hb, u1, u2, tbp, hp, hA, hil]) | ((first | refine Post.splitN (fun gg => ?_) (fun gg => ?_) | refine Post.split (fun gg => ?_) (fun gg => ?_)) <;> simp (maxSteps := 2000000) only [go_sem, seval, reduceCtorEq, List.append_eq, gg, f1, g1, v1, v2, hgt, hll, ht1, g2, hb, u1, u2, tbp, hp, hA, hil]) | (refine finR (by simp only [go_sem, seval, reduceCtorEq, List.append_eq, f1, g1, v1, v2, hgt, hll, ht1, g2, hb, u1, u2, tbp, hp, hA, hil]; exact rfl) ?_; simp only [go_sem, seval, reduceCtorEq, List.append_eq, f1, g1, v1, v2, hgt, hll, ht1, g2, hb, u1, u2, tbp, hp, hA, hil]) | refine updL hM ?_ (by omega) | (with_reducible exact fun _ _ => rfl))
    all_goals (first | omega | (simp only [decide_eq_true_eq, decide_eq_false_iff_not] at *; omega) | (simp only [List.length_append, List.length_cons, List.length_nil] <;> omega) | exact one_bv _ | exact one_sv _ | skip)
    refine ⟨(i + 1, upd (upd μ n (some (l.getD i ent0).c)) mn (some (bv (lastL p q (l.take (i + 1))).1)), n + 1), ⟨by simp only; omega, fun b hb2 => ?_, by simp only; omega, upd_same _ _ _⟩, by simp only; omega, (sbs (by simp (maxSteps := 2000000) only [go_sem, seval, reduceCtorEq, List.append_eq]) rfl rfl)⟩
    have hlt : b < mn := Nat.lt_of_not_le fun k => hb2 (hM b k)
    simp only
    rw [upd_ne _ _ (by omega), upd_ne _ _ (by omega)]
    exact hk b hb2
  · have f1 : ((i : Int) < (l.length : Int)) = False := eq_false (by omega)
    have e1 : i = l.length := by omega
    subst e1
    rw [List.take_length]
    repeat' (first | (with_reducible first | refine pa ?_ | refine pb ?_ | refine pc ?_ | refine nxt_n ?_ | refine nxt_e ?_ | refine nxt_r ?_ | refine blk_n ?_ | refine blk_r ?_ | refine blk_hit ?_ | refine blk_miss (by rfl) ?_ | refine pd ?_ | refine pe ?_ | refine pf ?_ | refine pg ?_ | apply And.intro) | (refine hK _ ?_; clear hK K hΘ Θ) | (with_reducible first | refine cw1 ?_ | refine cw2 ?_ | exact cw3 | exact cw4) | ((with_reducible first | refine cw5 (fun gg => ?_) | refine cw6 (fun gg => ?_) | refine cw7 (fun gg => ?_)); try simp only [gg]) | refine cs1 hG rfl ?_ ?_ | refine cs2 hG rfl ?_ ?_ | ((first | refine rga hG (by kernel_rfl) (fun Θ K hΘ hK => ?_) | refine rgb hG (by kernel_rfl) (fun Θ K hΘ hK => ?_)); simp (maxSteps := 2000000) only [go_sem, seval, reduceCtorEq, List.append_eq, f1]) | ((first | refine Post.splitN (fun gg => ?_) (fun gg => ?_) | refine Post.split (fun gg => ?_) (fun gg => ?_)) <;> simp (maxSteps := 2000000) only [go_sem, seval, reduceCtorEq, List.append_eq, gg, f1]) | (refine finR (by simp only [go_sem, seval, reduceCtorEq, List.append_eq, f1]; exact rfl) ?_; simp only [go_sem, seval, reduceCtorEq, List.append_eq, f1]) | refine updL hM ?_ (by omega) | (with_reducible exact fun _ _ => rfl))
    all_goals (first | omega | (simp only [decide_eq_true_eq, decide_eq_false_iff_not] at *; omega) | (simp only [List.length_append, List.length_cons, List.length_nil] <;> omega) | exact one_bv _ | exact one_sv _ | skip)
end Go.VL

set_option linter.unusedVariables false
set_option linter.unusedSimpArgs false
set_option maxRecDepth 100000
set_option maxHeartbeats 8000000
open Go.RowKit
namespace Go.VL
open Go.Proofs
theorem RNum_sp (n : Nat) (hn : n < 9223372036854775808) : Rt 67 [.flat (.int .i64 n)] (.flat (.string (bs (numB n)))) := by
  intro M mn
  refine fnL (C := kc 24 [] []) (rs := [.tmp 2]) envOk Tryd.func67 (by kernel_rfl) rfl rfl rfl rfl rfl rfl (Low.flat _) ?_
  intro E hG hM
  repeat' (first | (with_reducible first | refine pa ?_ | refine pb ?_ | refine pc ?_ | refine nxt_n ?_ | refine nxt_e ?_ | refine nxt_r ?_ | refine blk_n ?_ | refine blk_r ?_ | refine blk_hit ?_ | refine blk_miss (by rfl) ?_ | refine pd ?_ | refine pe ?_ | refine pf ?_ | refine pg ?_ | apply And.intro) | (refine hK _ ?_; clear hK K hΘ Θ) | (with_reducible first | refine cw1 ?_ | refine cw2 ?_ | exact cw3 | exact cw4) | ((with_reducible first | refine cw5 (fun gg => ?_) | refine cw6 (fun gg => ?_) | refine cw7 (fun gg => ?_)); try simp only [gg]) | refine cs1 hG rfl ?_ ?_ | refine cs2 hG rfl ?_ ?_ | ((first | refine rga hG (by kernel_rfl) (fun Θ K hΘ hK => ?_) | refine rgb hG (by kernel_rfl) (fun Θ K hΘ hK => ?_)); simp (maxSteps := 2000000) only [go_sem, seval, reduceCtorEq]) | ((first | refine Post.splitN (fun gg => ?_) (fun gg => ?_) | refine Post.split (fun gg => ?_) (fun gg => ?_)) <;> simp (maxSteps := 2000000) only [go_sem, seval, reduceCtorEq, gg]) | (refine finR (by simp only [go_sem, seval, reduceCtorEq]; exact rfl) ?_; simp only [go_sem, seval, reduceCtorEq]) | refine updL hM ?_ (by omega) | (with_reducible exact fun _ _ => rfl))
  all_goals (first | omega | (simp only [decide_eq_true_eq, decide_eq_false_iff_not] at *; omega) | (simp only [List.length_append, List.length_cons, List.length_nil] <;> omega) | exact one_bv _ | exact one_sv _ | skip)
  refine WC.loopA (fun q : Nat × List UInt8 => ⟨[(4, .flat (.int .i64 q.2.length)), (3, .flat (.string (bs q.2))), (0, .flat (.int .i64 q.1))], M, mn⟩) (fun q => q.1) (fun q => q.1 ≤ n ∧ (le q.1).reverse ++ q.2 = (le n).reverse) (n, []) ⟨Nat.le_refl _, by simp⟩ (sbs (by simp (maxSteps := 2000000) only [go_sem, seval, reduceCtorEq, List.append_eq, List.length_nil, bs_empty]) rfl rfl) ?_
  rintro ⟨x, post⟩ ⟨hxn, hpost⟩
  simp only at hxn hpost ⊢
  have hl8 : (le n).length ≤ 8 := le_length 8 _ (by omega)
  have hl : post.length ≤ 8 := by
    have := congrArg List.length hpost
    rw [List.length_append, List.length_reverse, List.length_reverse] at this; omega
  by_cases hx : 0 < x
  · have f1 : ((x : Int) > 0) = True := eq_true (by omega)
    have v1 := wi1 (n := post.length) (by omega)
    have v2 : (x : Int).tmod 256 = ((x % 256 : Nat) : Int) := tmodN x 256
    have v3 : quoI .i64 (x : Int) 256 = _ := quoN x 256 (by omega)
    repeat' (first | (with_reducible first | refine pa ?_ | refine pb ?_ | refine pc ?_ | refine nxt_n ?_ | refine nxt_e ?_ | refine nxt_r ?_ | refine blk_n ?_ | refine blk_r ?_ | refine blk_hit ?_ | refine blk_miss (by rfl) ?_ | refine pd ?_ | refine pe ?_ | refine pf ?_ | refine pg ?_ | apply And.intro) | (refine hK _ ?_; clear hK K hΘ Θ) | (with_reducible first | refine cw1 ?_ | refine cw2 ?_ | exact cw3 | exact cw4) | ((with_reducible first | refine cw5 (fun gg => ?_) | refine cw6 (fun gg => ?_) | refine cw7 (fun gg => ?_)); try simp only [gg]) | refine cs1 hG rfl ?_ ?_ | refine cs2 hG rfl ?_ ?_ | ((first | refine rga hG (by kernel_rfl) (fun Θ K hΘ hK => ?_) | refine rgb hG (by kernel_rfl) (fun Θ K hΘ hK => ?_)); simp (maxSteps := 2000000) only [go_sem, seval, reduceCtorEq, f1, v1, v2, v3, w_byteN]) | ((first | refine Post.splitN (fun gg => ?_) (fun gg => ?_) | refine Post.split (fun gg => ?_) (fun gg => ?_)) <;> simp (maxSteps := 2000000) only [go_sem, seval, reduceCtorEq, gg, f1, v1, v2, v3, w_byteN]) | (refine finR (by simp only [go_sem, seval, reduceCtorEq, f1, v1, v2, v3, w_byteN]; exact rfl) ?_; simp only [go_sem, seval, reduceCtorEq, f1, v1, v2, v3, w_byteN]) | refine updL hM ?_ (by omega) | (with_reducible exact fun _ _ => rfl))
    all_goals (first | omega | (simp only [decide_eq_true_eq, decide_eq_false_iff_not] at *; omega) | (simp only [List.length_append, List.length_cons, List.length_nil] <;> omega) | exact one_bv _ | exact one_sv _ | skip)
    exact ⟨(x / 256, UInt8.ofNat (x % 256) :: post), ⟨by simp only; omega, by simp only; rw [← hpost, le_pos (n := x) (by omega)]; simp⟩, by simp only; omega, (sbs (by simp (maxSteps := 2000000) only [go_sem, seval, reduceCtorEq, List.append_eq, List.length_cons]) rfl rfl)⟩
  · have f1 : ((x : Int) > 0) = False := eq_false (by omega)
    have hx : x = 0 := by omega
    subst hx
    have hpe : post = (le n).reverse := by rw [← hpost, le_zero]; rfl
    have hr : numB n = UInt8.ofNat post.length :: post := by rw [numB, hpe, List.length_reverse]
    rw [hr]
    repeat' (first | (with_reducible first | refine pa ?_ | refine pb ?_ | refine pc ?_ | refine nxt_n ?_ | refine nxt_e ?_ | refine nxt_r ?_ | refine blk_n ?_ | refine blk_r ?_ | refine blk_hit ?_ | refine blk_miss (by rfl) ?_ | refine pd ?_ | refine pe ?_ | refine pf ?_ | refine pg ?_ | apply And.intro) | (refine hK _ ?_; clear hK K hΘ Θ) | (with_reducible first | refine cw1 ?_ | refine cw2 ?_ | exact cw3 | exact cw4) | ((with_reducible first | refine cw5 (fun gg => ?_) | refine cw6 (fun gg => ?_) | refine cw7 (fun gg => ?_)); try simp only [gg]) | refine cs1 hG rfl ?_ ?_ | refine cs2 hG rfl ?_ ?_ | ((first | refine rga hG (by kernel_rfl) (fun Θ K hΘ hK => ?_) | refine rgb hG (by kernel_rfl) (fun Θ K hΘ hK => ?_)); simp (maxSteps := 2000000) only [go_sem, seval, reduceCtorEq, f1, w_byteN]) | ((first | refine Post.splitN (fun gg => ?_) (fun gg => ?_) | refine Post.split (fun gg => ?_) (fun gg => ?_)) <;> simp (maxSteps := 2000000) only [go_sem, seval, reduceCtorEq, gg, f1, w_byteN]) | (refine finR (by simp only [go_sem, seval, reduceCtorEq, f1, w_byteN]; exact rfl) ?_; simp only [go_sem, seval, reduceCtorEq, f1, w_byteN]) | refine updL hM ?_ (by omega) | (with_reducible exact fun _ _ => rfl))
    all_goals (first | omega | (simp only [decide_eq_true_eq, decide_eq_false_iff_not] at *; omega) | (simp only [List.length_append, List.length_cons, List.length_nil] <;> omega) | exact one_bv _ | exact one_sv _ | skip)
    all_goals rfl
theorem RText_sp (s : List UInt8) (hs : s.length ≤ 4611686018427387904) : Rt 118 [.flat (.string (bs s))] (.flat (.string (bs (textB s)))) := by
  have hb := numB_length s.length (by omega)
  intro M mn
  refine fnL (C := kc 8 [] []) (rs := [.tmp 2]) envOk Tryd.func118 (by kernel_rfl) rfl rfl rfl rfl rfl rfl (Low.flat _) ?_
  intro E hG hM
  repeat' (first | (with_reducible first | refine pa ?_ | refine pb ?_ | refine pc ?_ | refine nxt_n ?_ | refine nxt_e ?_ | refine nxt_r ?_ | refine blk_n ?_ | refine blk_r ?_ | refine blk_hit ?_ | refine blk_miss (by rfl) ?_ | refine pd ?_ | refine pe ?_ | refine pf ?_ | refine pg ?_ | apply And.intro) | (refine hK _ ?_; clear hK K hΘ Θ) | (with_reducible first | refine cw1 ?_ | refine cw2 ?_ | exact cw3 | exact cw4) | ((with_reducible first | refine cw5 (fun gg => ?_) | refine cw6 (fun gg => ?_) | refine cw7 (fun gg => ?_)); try simp only [gg]) | refine cs1 hG rfl ?_ ?_ | refine cs2 hG rfl ?_ ?_ | ((first | refine kg (RNum_sp _ (by omega) _ _) rfl hΘ ?_ | refine rga hG (by kernel_rfl) (fun Θ K hΘ hK => ?_) | refine rgb hG (by kernel_rfl) (fun Θ K hΘ hK => ?_)); simp (maxSteps := 2000000) only [go_sem, seval, reduceCtorEq]) | ((first | refine Post.splitN (fun gg => ?_) (fun gg => ?_) | refine Post.split (fun gg => ?_) (fun gg => ?_)) <;> simp (maxSteps := 2000000) only [go_sem, seval, reduceCtorEq, gg]) | (refine finR (by simp only [go_sem, seval, reduceCtorEq]; exact rfl) ?_; simp only [go_sem, seval, reduceCtorEq]) | refine updL hM ?_ (by omega) | (with_reducible exact fun _ _ => rfl))
  all_goals (first | omega | (simp only [decide_eq_true_eq, decide_eq_false_iff_not] at *; omega) | (simp only [List.length_append, List.length_cons, List.length_nil] <;> omega) | exact one_bv _ | exact one_sv _ | skip)
  all_goals rfl
theorem RList_sp (l : List (List UInt8)) (hs : total l ≤ 1000000000) (hl : l.length ≤ 1000000) : Rt 91 [.sl false 1 l.length (sv l)] (.flat (.string (bs (listB l)))) := by
  have hn := numB_length l.length (by omega)
  intro M mn
  refine fnL (C := kc 21 [] []) (rs := [.tmp 2]) envOk Tryd.func91 (by kernel_rfl) rfl rfl rfl rfl rfl rfl (Low.flat _) ?_
  intro E hG hM
  repeat' (first | (with_reducible first | refine pa ?_ | refine pb ?_ | refine pc ?_ | refine nxt_n ?_ | refine nxt_e ?_ | refine nxt_r ?_ | refine blk_n ?_ | refine blk_r ?_ | refine blk_hit ?_ | refine blk_miss (by rfl) ?_ | refine pd ?_ | refine pe ?_ | refine pf ?_ | refine pg ?_ | apply And.intro) | (refine hK _ ?_; clear hK K hΘ Θ) | (with_reducible first | refine cw1 ?_ | refine cw2 ?_ | exact cw3 | exact cw4) | ((with_reducible first | refine cw5 (fun gg => ?_) | refine cw6 (fun gg => ?_) | refine cw7 (fun gg => ?_)); try simp only [gg]) | refine cs1 hG rfl ?_ ?_ | refine cs2 hG rfl ?_ ?_ | ((first | refine kg (RNum_sp _ (by omega) _ _) rfl hΘ ?_ | refine rga hG (by kernel_rfl) (fun Θ K hΘ hK => ?_) | refine rgb hG (by kernel_rfl) (fun Θ K hΘ hK => ?_)); simp (maxSteps := 2000000) only [go_sem, seval, reduceCtorEq]) | ((first | refine Post.splitN (fun gg => ?_) (fun gg => ?_) | refine Post.split (fun gg => ?_) (fun gg => ?_)) <;> simp (maxSteps := 2000000) only [go_sem, seval, reduceCtorEq, gg]) | (refine finR (by simp only [go_sem, seval, reduceCtorEq]; exact rfl) ?_; simp only [go_sem, seval, reduceCtorEq]) | refine updL hM ?_ (by omega) | (with_reducible exact fun _ _ => rfl))
  all_goals (first | omega | (simp only [decide_eq_true_eq, decide_eq_false_iff_not] at *; omega) | (simp only [List.length_append, List.length_cons, List.length_nil] <;> omega) | exact one_bv _ | exact one_sv _ | skip)
  refine WC.loopA (fun q : Nat × List UInt8 => ⟨[(11, .flat (.int .i64 q.1)), (10, .flat (.int .i64 l.length)), (9, .sl false 1 l.length (sv l)), (3, .flat (.string (bs q.2)))], M, mn⟩) (fun q => l.length - q.1) (fun q => q.1 ≤ l.length ∧ q.2 = numB l.length ++ listTail (l.take q.1)) (0, numB l.length) ⟨by simp, by simp [listTail]⟩ (sbs (by simp (maxSteps := 2000000) only [go_sem, seval, reduceCtorEq, List.append_eq]) rfl rfl) ?_
  rintro ⟨i, b⟩ ⟨hi, hb⟩
  simp only at hi hb ⊢
  by_cases h : i < l.length
  · have f1 : ((i : Int) < (l.length : Int)) = True := eq_true (by omega)
    have g1 : (i < l.length) = True := eq_true h
    have hmem : l.getD i [] ∈ l := by
      rw [List.getD_eq_getElem?_getD, List.getElem?_eq_getElem h]; exact List.getElem_mem _
    have hsz := mem_total hmem
    have hnl := numB_length (l.getD i []).length (by omega)
    have htl := listTail_length (l.take i) (by have := total_take l i; omega)
    have htt := total_take l i
    have hll : (l.take i).length ≤ l.length := by simp; omega
    have htn : b.length ≤ 2000000000 := by rw [hb, List.length_append]; omega
    have hxt : (textB (l.getD i [])).length ≤ 2000000000 := by rw [textB, List.length_append]; omega
    have v1 := wi1 (n := i) (by omega)
    repeat' (first | (with_reducible first | refine pa ?_ | refine pb ?_ | refine pc ?_ | refine nxt_n ?_ | refine nxt_e ?_ | refine nxt_r ?_ | refine blk_n ?_ | refine blk_r ?_ | refine blk_hit ?_ | refine blk_miss (by rfl) ?_ | refine pd ?_ | refine pe ?_ | refine pf ?_ | refine pg ?_ | apply And.intro) | (refine hK _ ?_; clear hK K hΘ Θ) | (with_reducible first | refine cw1 ?_ | refine cw2 ?_ | exact cw3 | exact cw4) | ((with_reducible first | refine cw5 (fun gg => ?_) | refine cw6 (fun gg => ?_) | refine cw7 (fun gg => ?_)); try simp only [gg]) | refine cs1 hG rfl ?_ ?_ | refine cs2 hG rfl ?_ ?_ | ((first | refine kg (RText_sp _ (by omega) _ _) rfl hΘ ?_ | refine rga hG (by kernel_rfl) (fun Θ K hΘ hK => ?_) | refine rgb hG (by kernel_rfl) (fun Θ K hΘ hK => ?_)); simp (maxSteps := 2000000) only [go_sem, seval, reduceCtorEq, f1, g1, v1]) | ((first | refine Post.splitN (fun gg => ?_) (fun gg => ?_) | refine Post.split (fun gg => ?_) (fun gg => ?_)) <;> simp (maxSteps := 2000000) only [go_sem, seval, reduceCtorEq, gg, f1, g1, v1]) | (refine finR (by simp only [go_sem, seval, reduceCtorEq, f1, g1, v1]; exact rfl) ?_; simp only [go_sem, seval, reduceCtorEq, f1, g1, v1]) | refine updL hM ?_ (by omega) | (with_reducible exact fun _ _ => rfl))
    all_goals (first | omega | (simp only [decide_eq_true_eq, decide_eq_false_iff_not] at *; omega) | (simp only [List.length_append, List.length_cons, List.length_nil] <;> omega) | exact one_bv _ | exact one_sv _ | skip)
    refine ⟨(i + 1, b ++ textB (l.getD i [])), ⟨by simp only; omega, ?_⟩, by simp only; omega, (sbs (by simp (maxSteps := 2000000) only [go_sem, seval, reduceCtorEq, List.append_eq]) rfl rfl)⟩
    simp only
    rw [hb, take_succ' h, listTail_append, listTail_one]; simp
  · have f1 : ((i : Int) < (l.length : Int)) = False := eq_false (by omega)
    rw [List.take_of_length_le (by omega)] at hb
    repeat' (first | (with_reducible first | refine pa ?_ | refine pb ?_ | refine pc ?_ | refine nxt_n ?_ | refine nxt_e ?_ | refine nxt_r ?_ | refine blk_n ?_ | refine blk_r ?_ | refine blk_hit ?_ | refine blk_miss (by rfl) ?_ | refine pd ?_ | refine pe ?_ | refine pf ?_ | refine pg ?_ | apply And.intro) | (refine hK _ ?_; clear hK K hΘ Θ) | (with_reducible first | refine cw1 ?_ | refine cw2 ?_ | exact cw3 | exact cw4) | ((with_reducible first | refine cw5 (fun gg => ?_) | refine cw6 (fun gg => ?_) | refine cw7 (fun gg => ?_)); try simp only [gg]) | refine cs1 hG rfl ?_ ?_ | refine cs2 hG rfl ?_ ?_ | ((first | refine rga hG (by kernel_rfl) (fun Θ K hΘ hK => ?_) | refine rgb hG (by kernel_rfl) (fun Θ K hΘ hK => ?_)); simp (maxSteps := 2000000) only [go_sem, seval, reduceCtorEq, f1]) | ((first | refine Post.splitN (fun gg => ?_) (fun gg => ?_) | refine Post.split (fun gg => ?_) (fun gg => ?_)) <;> simp (maxSteps := 2000000) only [go_sem, seval, reduceCtorEq, gg, f1]) | (refine finR (by simp only [go_sem, seval, reduceCtorEq, f1]; exact rfl) ?_; simp only [go_sem, seval, reduceCtorEq, f1]) | refine updL hM ?_ (by omega) | (with_reducible exact fun _ _ => rfl))
    all_goals (first | omega | (simp only [decide_eq_true_eq, decide_eq_false_iff_not] at *; omega) | (simp only [List.length_append, List.length_cons, List.length_nil] <;> omega) | exact one_bv _ | exact one_sv _ | skip)
    all_goals (rw [hb]; rfl)
end Go.VL

set_option linter.unusedVariables false
set_option linter.unusedSimpArgs false
set_option maxRecDepth 100000
set_option maxHeartbeats 8000000
open Go.RowKit
namespace Go.VL
open Go.Proofs
theorem tNum_low (s : List UInt8) : Low (tNum s) := lowTup (lowC1 (Low.flat _) (lowC1 (Low.flat _) (lowC1 (Low.flat _) lowC0)))
theorem TakeNum_sp (s : List UInt8) (hs : s.length ≤ 4611686018427387904) : Rt 117 [.flat (.string (bs s))] (tNum s) := by
  intro M mn
  refine fnL (C := kc 58 [] []) (rs := [.tmp 2, .tmp 3, .tmp 4]) envOk Tryd.func117 (by kernel_rfl) rfl rfl rfl rfl rfl rfl (tNum_low s) ?_
  intro E hG hM
  cases s with
  | nil =>
    have hr : tNum [] = .tup [.flat (.int .i64 0), .flat (.string (bs [])), .flat (.bool false)] := by rw [tNum, rNum_nil]; rfl
    repeat' (first | (with_reducible first | refine pa ?_ | refine pb ?_ | refine pc ?_ | refine nxt_n ?_ | refine nxt_e ?_ | refine nxt_r ?_ | refine blk_n ?_ | refine blk_r ?_ | refine blk_hit ?_ | refine blk_miss (by rfl) ?_ | refine pd ?_ | refine pe ?_ | refine pf ?_ | refine pg ?_ | apply And.intro) | (refine hK _ ?_; first | clear hK K hn0 hcl hΘ Θ | clear hK K hΘ Θ) | (with_reducible first | refine cw1 ?_ | refine cw2 ?_ | exact cw3 | exact cw4) | ((with_reducible first | refine cw5 (fun gg => ?_) | refine cw6 (fun gg => ?_) | refine cw7 (fun gg => ?_)); try simp only [gg]) | refine cs1 hG rfl ?_ ?_ | refine cs2 hG rfl ?_ ?_ | ((first | refine rga hG (by kernel_rfl) (fun Θ K hΘ hK => ?_) | refine rgb hG (by kernel_rfl) (fun Θ K hΘ hK => ?_) | refine rgc defCl hG (by kernel_rfl) cl0 (by rfl) (by kernel_rfl) (fun Θ K hΘ hcl hn0 hK => ?_) | refine rgd defCl hG (by kernel_rfl) cl0 (by rfl) (by kernel_rfl) (fun Θ K hΘ hcl hn0 hK => ?_)); simp (maxSteps := 2000000) only [go_sem, seval, reduceCtorEq, hr]) | ((first | refine Post.splitN (fun gg => ?_) (fun gg => ?_) | refine PostB.splitN (fun gg => ?_) (fun gg => ?_) | refine Post.split (fun gg => ?_) (fun gg => ?_) | refine PostB.split (fun gg => ?_) (fun gg => ?_)) <;> simp (maxSteps := 2000000) only [go_sem, seval, reduceCtorEq, gg, hr]) | (refine finR (by simp only [go_sem, seval, reduceCtorEq, hr]; exact rfl) ?_; simp only [go_sem, seval, reduceCtorEq, hr]) | refine updL hM ?_ (by omega) | (with_reducible exact fun _ _ => rfl))
    all_goals (first | omega | (simp only [decide_eq_true_eq, decide_eq_false_iff_not] at *; omega) | (simp only [List.length_append, List.length_cons, List.length_nil] <;> omega) | exact one_bv _ | exact one_sv _ | skip)
  | cons h l =>
    have hn : (h :: l = []) = False := eq_false (by simp)
    have hb0 : (h :: l).getD 0 0 = h := rfl
    have hh := h.toNat_lt
    have hl1 : (h :: l).length = l.length + 1 := rfl
    have hw0 : IntKind.i64.wrap (h.toNat : Int) = (h.toNat : Int) := wi (by omega) (by omega)
    have hw1 : IntKind.i64.wrap (1 + (h.toNat : Int)) = ((1 + h.toNat : Nat) : Int) := by rw [wi (by omega) (by omega)]; omega
    by_cases h8 : 8 < h.toNat
    · have q1 : ((h.toNat : Int) > 8) = True := eq_true (by omega)
      have hr : tNum (h :: l) = .tup [.flat (.int .i64 0), .flat (.string (bs [])), .flat (.bool false)] := by rw [tNum, rNum_short h l (.inr h8)]; rfl
      repeat' (first | (with_reducible first | refine pa ?_ | refine pb ?_ | refine pc ?_ | refine nxt_n ?_ | refine nxt_e ?_ | refine nxt_r ?_ | refine blk_n ?_ | refine blk_r ?_ | refine blk_hit ?_ | refine blk_miss (by rfl) ?_ | refine pd ?_ | refine pe ?_ | refine pf ?_ | refine pg ?_ | apply And.intro) | (refine hK _ ?_; first | clear hK K hn0 hcl hΘ Θ | clear hK K hΘ Θ) | (with_reducible first | refine cw1 ?_ | refine cw2 ?_ | exact cw3 | exact cw4) | ((with_reducible first | refine cw5 (fun gg => ?_) | refine cw6 (fun gg => ?_) | refine cw7 (fun gg => ?_)); try simp only [gg]) | refine cs1 hG rfl ?_ ?_ | refine cs2 hG rfl ?_ ?_ | ((first | refine rga hG (by kernel_rfl) (fun Θ K hΘ hK => ?_) | refine rgb hG (by kernel_rfl) (fun Θ K hΘ hK => ?_) | refine rgc defCl hG (by kernel_rfl) cl0 (by rfl) (by kernel_rfl) (fun Θ K hΘ hcl hn0 hK => ?_) | refine rgd defCl hG (by kernel_rfl) cl0 (by rfl) (by kernel_rfl) (fun Θ K hΘ hcl hn0 hK => ?_)); simp (maxSteps := 2000000) only [go_sem, seval, reduceCtorEq, hn, hb0, hw0, q1, hr]) | ((first | refine Post.splitN (fun gg => ?_) (fun gg => ?_) | refine PostB.splitN (fun gg => ?_) (fun gg => ?_) | refine Post.split (fun gg => ?_) (fun gg => ?_) | refine PostB.split (fun gg => ?_) (fun gg => ?_)) <;> simp (maxSteps := 2000000) only [go_sem, seval, reduceCtorEq, gg, hn, hb0, hw0, q1, hr]) | (refine finR (by simp only [go_sem, seval, reduceCtorEq, hn, hb0, hw0, q1, hr]; exact rfl) ?_; simp only [go_sem, seval, reduceCtorEq, hn, hb0, hw0, q1, hr]) | refine updL hM ?_ (by omega) | (with_reducible exact fun _ _ => rfl))
      all_goals (first | omega | (simp only [decide_eq_true_eq, decide_eq_false_iff_not] at *; omega) | (simp only [List.length_append, List.length_cons, List.length_nil] <;> omega) | exact one_bv _ | exact one_sv _ | skip)
    have q1 : ((h.toNat : Int) > 8) = False := eq_false (by omega)
    by_cases hsh : l.length < h.toNat
    · have q2 : (((l.length + 1 : Nat) : Int) < ((1 + h.toNat : Nat) : Int)) = True := eq_true (by omega)
      have hr : tNum (h :: l) = .tup [.flat (.int .i64 0), .flat (.string (bs [])), .flat (.bool false)] := by rw [tNum, rNum_short h l (.inl hsh)]; rfl
      repeat' (first | (with_reducible first | refine pa ?_ | refine pb ?_ | refine pc ?_ | refine nxt_n ?_ | refine nxt_e ?_ | refine nxt_r ?_ | refine blk_n ?_ | refine blk_r ?_ | refine blk_hit ?_ | refine blk_miss (by rfl) ?_ | refine pd ?_ | refine pe ?_ | refine pf ?_ | refine pg ?_ | apply And.intro) | (refine hK _ ?_; first | clear hK K hn0 hcl hΘ Θ | clear hK K hΘ Θ) | (with_reducible first | refine cw1 ?_ | refine cw2 ?_ | exact cw3 | exact cw4) | ((with_reducible first | refine cw5 (fun gg => ?_) | refine cw6 (fun gg => ?_) | refine cw7 (fun gg => ?_)); try simp only [gg]) | refine cs1 hG rfl ?_ ?_ | refine cs2 hG rfl ?_ ?_ | ((first | refine rga hG (by kernel_rfl) (fun Θ K hΘ hK => ?_) | refine rgb hG (by kernel_rfl) (fun Θ K hΘ hK => ?_) | refine rgc defCl hG (by kernel_rfl) cl0 (by rfl) (by kernel_rfl) (fun Θ K hΘ hcl hn0 hK => ?_) | refine rgd defCl hG (by kernel_rfl) cl0 (by rfl) (by kernel_rfl) (fun Θ K hΘ hcl hn0 hK => ?_)); simp (maxSteps := 2000000) only [go_sem, seval, reduceCtorEq, hn, hb0, hw0, q1, hw1, q2, hr]) | ((first | refine Post.splitN (fun gg => ?_) (fun gg => ?_) | refine PostB.splitN (fun gg => ?_) (fun gg => ?_) | refine Post.split (fun gg => ?_) (fun gg => ?_) | refine PostB.split (fun gg => ?_) (fun gg => ?_)) <;> simp (maxSteps := 2000000) only [go_sem, seval, reduceCtorEq, gg, hn, hb0, hw0, q1, hw1, q2, hr]) | (refine finR (by simp only [go_sem, seval, reduceCtorEq, hn, hb0, hw0, q1, hw1, q2, hr]; exact rfl) ?_; simp only [go_sem, seval, reduceCtorEq, hn, hb0, hw0, q1, hw1, q2, hr]) | refine updL hM ?_ (by omega) | (with_reducible exact fun _ _ => rfl))
      all_goals (first | omega | (simp only [decide_eq_true_eq, decide_eq_false_iff_not] at *; omega) | (simp only [List.length_append, List.length_cons, List.length_nil] <;> omega) | exact one_bv _ | exact one_sv _ | skip)
    have q2 : (((l.length + 1 : Nat) : Int) < ((1 + h.toNat : Nat) : Int)) = False := eq_false (by omega)
    obtain ⟨t, r, rfl, htl⟩ : ∃ t r, l = t ++ r ∧ t.length = h.toNat := ⟨l.take h.toNat, l.drop h.toNat, by simp, by rw [List.length_take]; omega⟩
    have hspec := rNum_cases h t r htl
    rw [List.length_append] at q2
    repeat' (first | (with_reducible first | refine pa ?_ | refine pb ?_ | refine pc ?_ | refine nxt_n ?_ | refine nxt_e ?_ | refine nxt_r ?_ | refine blk_n ?_ | refine blk_r ?_ | refine blk_hit ?_ | refine blk_miss (by rfl) ?_ | refine pd ?_ | refine pe ?_ | refine pf ?_ | refine pg ?_ | apply And.intro) | (refine hK _ ?_; first | clear hK K hn0 hcl hΘ Θ | clear hK K hΘ Θ) | (with_reducible first | refine cw1 ?_ | refine cw2 ?_ | exact cw3 | exact cw4) | ((with_reducible first | refine cw5 (fun gg => ?_) | refine cw6 (fun gg => ?_) | refine cw7 (fun gg => ?_)); try simp only [gg]) | refine cs1 hG rfl ?_ ?_ | refine cs2 hG rfl ?_ ?_ | ((first | refine rga hG (by kernel_rfl) (fun Θ K hΘ hK => ?_) | refine rgb hG (by kernel_rfl) (fun Θ K hΘ hK => ?_) | refine rgc defCl hG (by kernel_rfl) cl0 (by rfl) (by kernel_rfl) (fun Θ K hΘ hcl hn0 hK => ?_) | refine rgd defCl hG (by kernel_rfl) cl0 (by rfl) (by kernel_rfl) (fun Θ K hΘ hcl hn0 hK => ?_)); simp (maxSteps := 2000000) only [go_sem, seval, reduceCtorEq, hn, hb0, hw0, q1, hw1, q2]) | ((first | refine Post.splitN (fun gg => ?_) (fun gg => ?_) | refine PostB.splitN (fun gg => ?_) (fun gg => ?_) | refine Post.split (fun gg => ?_) (fun gg => ?_) | refine PostB.split (fun gg => ?_) (fun gg => ?_)) <;> simp (maxSteps := 2000000) only [go_sem, seval, reduceCtorEq, gg, hn, hb0, hw0, q1, hw1, q2]) | (refine finR (by simp only [go_sem, seval, reduceCtorEq, hn, hb0, hw0, q1, hw1, q2]; exact rfl) ?_; simp only [go_sem, seval, reduceCtorEq, hn, hb0, hw0, q1, hw1, q2]) | refine updL hM ?_ (by omega) | (with_reducible exact fun _ _ => rfl))
    all_goals (first | omega | (simp only [decide_eq_true_eq, decide_eq_false_iff_not] at *; omega) | (simp only [List.length_append, List.length_cons, List.length_nil] <;> omega) | exact one_bv _ | exact one_sv _ | skip)
    refine WC.loopA (fun i : Nat => ⟨[(7, .flat (.int .i64 (i + 1 : Nat))), (6, .flat (.int .i64 (be (t.take i)))), (5, .flat (.int .i64 t.length)), (0, .flat (.string (bs (h :: (t ++ r)))))], M, mn⟩) (fun i => t.length - i) (fun i => i ≤ t.length ∧ (i = 8 → (t.getD 0 0).toNat ≤ 127)) 0 ⟨by omega, by omega⟩ (sbs (by simp (maxSteps := 2000000) only [go_sem, seval, reduceCtorEq, List.append_eq, be, List.take_zero, List.foldl_nil, htl]) rfl rfl) ?_
    rintro i ⟨hi, h127⟩
    by_cases hlt : i < t.length
    · have g1 : (((i + 1 : Nat) : Int) ≤ (t.length : Int)) = True := eq_true (by omega)
      have hbl : be (t.take i) < 256 ^ i := by
        have := be_lt (t.take i)
        rwa [List.length_take, Nat.min_eq_left (by omega)] at this
      have hgd : (h :: (t ++ r)).getD (i + 1) 0 = t.getD i 0 := by
        rw [List.getD_cons_succ, List.getD_eq_getElem?_getD, List.getElem?_append_left hlt, ← List.getD_eq_getElem?_getD]
      have hsn : be (t.take (i + 1)) = be (t.take i) * 256 + (t.getD i 0).toNat := by rw [take_snoc t i 0 hlt, be_snoc]
      have hb8 := (t.getD i 0).toNat_lt
      have g2 : (i + 1 < (h :: (t ++ r)).length) = True := eq_true (by simp; omega)
      by_cases hbig : 36028797018963967 < be (t.take i)
      · have q3 : ((be (t.take i) : Int) > 36028797018963967) = True := eq_true (by omega)
        have hbad : badNum t = true := by
          obtain ⟨h7, hf⟩ := be_first hlt (by omega) hbig
          simp only [badNum, decide_eq_true hf, show t.length = 8 by omega]
          simp
        have hr : tNum (h :: (t ++ r)) = .tup [.flat (.int .i64 0), .flat (.string (bs [])), .flat (.bool false)] := by rw [tNum, hspec, hbad]; rfl
        repeat' (first | (with_reducible first | refine pa ?_ | refine pb ?_ | refine pc ?_ | refine nxt_n ?_ | refine nxt_e ?_ | refine nxt_r ?_ | refine blk_n ?_ | refine blk_r ?_ | refine blk_hit ?_ | refine blk_miss (by rfl) ?_ | refine pd ?_ | refine pe ?_ | refine pf ?_ | refine pg ?_ | apply And.intro) | (refine hK _ ?_; first | clear hK K hn0 hcl hΘ Θ | clear hK K hΘ Θ) | (with_reducible first | refine cw1 ?_ | refine cw2 ?_ | exact cw3 | exact cw4) | ((with_reducible first | refine cw5 (fun gg => ?_) | refine cw6 (fun gg => ?_) | refine cw7 (fun gg => ?_)); try simp only [gg]) | refine cs1 hG rfl ?_ ?_ | refine cs2 hG rfl ?_ ?_ | ((first | refine rga hG (by kernel_rfl) (fun Θ K hΘ hK => ?_) | refine rgb hG (by kernel_rfl) (fun Θ K hΘ hK => ?_) | refine rgc defCl hG (by kernel_rfl) cl0 (by rfl) (by kernel_rfl) (fun Θ K hΘ hcl hn0 hK => ?_) | refine rgd defCl hG (by kernel_rfl) cl0 (by rfl) (by kernel_rfl) (fun Θ K hΘ hcl hn0 hK => ?_)); simp (maxSteps := 2000000) only [go_sem, seval, reduceCtorEq, g1, q3, hr]) | ((first | refine Post.splitN (fun gg => ?_) (fun gg => ?_) | refine PostB.splitN (fun gg => ?_) (fun gg => ?_) | refine Post.split (fun gg => ?_) (fun gg => ?_) | refine PostB.split (fun gg => ?_) (fun gg => ?_)) <;> simp (maxSteps := 2000000) only [go_sem, seval, reduceCtorEq, gg, g1, q3, hr]) | (refine finR (by simp only [go_sem, seval, reduceCtorEq, g1, q3, hr]; exact rfl) ?_; simp only [go_sem, seval, reduceCtorEq, g1, q3, hr]) | refine updL hM ?_ (by omega) | (with_reducible exact fun _ _ => rfl))
        all_goals (first | omega | (simp only [decide_eq_true_eq, decide_eq_false_iff_not] at *; omega) | (simp only [List.length_append, List.length_cons, List.length_nil] <;> omega) | exact one_bv _ | exact one_sv _ | skip)
      · have q3 : ((be (t.take i) : Int) > 36028797018963967) = False := eq_false (by omega)
        have hw3 : IntKind.i64.wrap ((be (t.take i) : Int) * 256) = ((be (t.take i) * 256 : Nat) : Int) := by rw [wi (by omega) (by omega)]; omega
        have hw4 : IntKind.i64.wrap ((t.getD i 0).toNat : Int) = ((t.getD i 0).toNat : Int) := wi (by omega) (by omega)
        have hw5 : IntKind.i64.wrap (((be (t.take i) * 256 : Nat) : Int) + ((t.getD i 0).toNat : Int)) = (be (t.take (i + 1)) : Int) := by rw [wi (by omega) (by omega)]; omega
        have hw6 := wi1 (n := i + 1) (by omega)
        repeat' (first | (with_reducible first | refine pa ?_ | refine pb ?_ | refine pc ?_ | refine nxt_n ?_ | refine nxt_e ?_ | refine nxt_r ?_ | refine blk_n ?_ | refine blk_r ?_ | refine blk_hit ?_ | refine blk_miss (by rfl) ?_ | refine pd ?_ | refine pe ?_ | refine pf ?_ | refine pg ?_ | apply And.intro) | (refine hK _ ?_; first | clear hK K hn0 hcl hΘ Θ | clear hK K hΘ Θ) | (with_reducible first | refine cw1 ?_ | refine cw2 ?_ | exact cw3 | exact cw4) | ((with_reducible first | refine cw5 (fun gg => ?_) | refine cw6 (fun gg => ?_) | refine cw7 (fun gg => ?_)); try simp only [gg]) | refine cs1 hG rfl ?_ ?_ | refine cs2 hG rfl ?_ ?_ | ((first | refine rga hG (by kernel_rfl) (fun Θ K hΘ hK => ?_) | refine rgb hG (by kernel_rfl) (fun Θ K hΘ hK => ?_) | refine rgc defCl hG (by kernel_rfl) cl0 (by rfl) (by kernel_rfl) (fun Θ K hΘ hcl hn0 hK => ?_) | refine rgd defCl hG (by kernel_rfl) cl0 (by rfl) (by kernel_rfl) (fun Θ K hΘ hcl hn0 hK => ?_)); simp (maxSteps := 2000000) only [go_sem, seval, reduceCtorEq, g1, q3, hgd, g2, hw3, hw4, hw5, hw6]) | ((first | refine Post.splitN (fun gg => ?_) (fun gg => ?_) | refine PostB.splitN (fun gg => ?_) (fun gg => ?_) | refine Post.split (fun gg => ?_) (fun gg => ?_) | refine PostB.split (fun gg => ?_) (fun gg => ?_)) <;> simp (maxSteps := 2000000) only [go_sem, seval, reduceCtorEq, gg, g1, q3, hgd, g2, hw3, hw4, hw5, hw6]) | (refine finR (by simp only [go_sem, seval, reduceCtorEq, g1, q3, hgd, g2, hw3, hw4, hw5, hw6]; exact rfl) ?_; simp only [go_sem, seval, reduceCtorEq, g1, q3, hgd, g2, hw3, hw4, hw5, hw6]) | refine updL hM ?_ (by omega) | (with_reducible exact fun _ _ => rfl))
        all_goals (first | omega | (simp only [decide_eq_true_eq, decide_eq_false_iff_not] at *; omega) | (simp only [List.length_append, List.length_cons, List.length_nil] <;> omega) | exact one_bv _ | exact one_sv _ | skip)
        refine ⟨i + 1, ⟨by omega, fun h8' => ?_⟩, by omega, (sbs (by simp (maxSteps := 2000000) only [go_sem, seval, reduceCtorEq, List.append_eq]) rfl rfl)⟩
        have h7' : i = 7 := by omega
        subst h7'
        exact be_first' (by omega) hbig
    · have hie : i = t.length := by omega
      subst hie
      have g1 : (((t.length + 1 : Nat) : Int) ≤ (t.length : Int)) = False := eq_false (by omega)
      have htk : t.take t.length = t := List.take_length
      have hk8 : t.length ≤ 8 := by omega
      have p1 : ((be t : Int) < 0) = False := eq_false (by omega)
      have hw6 : IntKind.i64.wrap (1 + (t.length : Int)) = ((1 + t.length : Nat) : Int) := by rw [wi (by omega) (by omega)]; omega
      have hdr : List.drop (1 + t.length) (List.take ((t ++ r).length + 1) (h :: (t ++ r))) = r := by
        rw [List.take_of_length_le (by simp), Nat.add_comm, List.drop_succ_cons, List.drop_left]
      by_cases h0 : 0 < t.length
      · have p2 : ((t.length : Int) > 0) = True := eq_true (by omega)
        have hg1 : (h :: (t ++ r)).getD 1 0 = t.getD 0 0 := by
          rw [List.getD_cons_succ, List.getD_eq_getElem?_getD, List.getElem?_append_left h0, ← List.getD_eq_getElem?_getD]
        have g2 : (1 < (h :: (t ++ r)).length) = True := eq_true (by simp; omega)
        by_cases hz : t.getD 0 0 = 0
        · have p3 : (((t.getD 0 0).toNat : Int) = 0) = True := eq_true (by rw [hz]; rfl)
          have hbad : badNum t = true := by rw [badNum, hz]; simp [h0]
          have hr : tNum (h :: (t ++ r)) = .tup [.flat (.int .i64 0), .flat (.string (bs [])), .flat (.bool false)] := by rw [tNum, hspec, hbad]; rfl
          repeat' (first | (with_reducible first | refine pa ?_ | refine pb ?_ | refine pc ?_ | refine nxt_n ?_ | refine nxt_e ?_ | refine nxt_r ?_ | refine blk_n ?_ | refine blk_r ?_ | refine blk_hit ?_ | refine blk_miss (by rfl) ?_ | refine pd ?_ | refine pe ?_ | refine pf ?_ | refine pg ?_ | apply And.intro) | (refine hK _ ?_; first | clear hK K hn0 hcl hΘ Θ | clear hK K hΘ Θ) | (with_reducible first | refine cw1 ?_ | refine cw2 ?_ | exact cw3 | exact cw4) | ((with_reducible first | refine cw5 (fun gg => ?_) | refine cw6 (fun gg => ?_) | refine cw7 (fun gg => ?_)); try simp only [gg]) | refine cs1 hG rfl ?_ ?_ | refine cs2 hG rfl ?_ ?_ | ((first | refine rga hG (by kernel_rfl) (fun Θ K hΘ hK => ?_) | refine rgb hG (by kernel_rfl) (fun Θ K hΘ hK => ?_) | refine rgc defCl hG (by kernel_rfl) cl0 (by rfl) (by kernel_rfl) (fun Θ K hΘ hcl hn0 hK => ?_) | refine rgd defCl hG (by kernel_rfl) cl0 (by rfl) (by kernel_rfl) (fun Θ K hΘ hcl hn0 hK => ?_)); simp (maxSteps := 2000000) only [go_sem, seval, reduceCtorEq, g1, htk, p1, p2, hg1, g2, p3, hr]) | ((first | refine Post.splitN (fun gg => ?_) (fun gg => ?_) | refine PostB.splitN (fun gg => ?_) (fun gg => ?_) | refine Post.split (fun gg => ?_) (fun gg => ?_) | refine PostB.split (fun gg => ?_) (fun gg => ?_)) <;> simp (maxSteps := 2000000) only [go_sem, seval, reduceCtorEq, gg, g1, htk, p1, p2, hg1, g2, p3, hr]) | (refine finR (by simp only [go_sem, seval, reduceCtorEq, g1, htk, p1, p2, hg1, g2, p3, hr]; exact rfl) ?_; simp only [go_sem, seval, reduceCtorEq, g1, htk, p1, p2, hg1, g2, p3, hr]) | refine updL hM ?_ (by omega) | (with_reducible exact fun _ _ => rfl))
          all_goals (first | omega | (simp only [decide_eq_true_eq, decide_eq_false_iff_not] at *; omega) | (simp only [List.length_append, List.length_cons, List.length_nil] <;> omega) | exact one_bv _ | exact one_sv _ | skip)
        · have p3 : (((t.getD 0 0).toNat : Int) = 0) = False := eq_false (fun e => hz (UInt8.toNat_inj.1 (by have h0 : (0 : UInt8).toNat = 0 := rfl; omega)))
          have hgood : badNum t = false := by
            simp only [badNum, Bool.or_eq_false_iff, Bool.and_eq_false_iff, decide_eq_false_iff_not]
            refine ⟨⟨by omega, .inr hz⟩, ?_⟩
            by_cases h88 : t.length = 8
            · right; have := h127 h88; omega
            · left; exact h88
          have hr : tNum (h :: (t ++ r)) = .tup [.flat (.int .i64 (be t)), .flat (.string (bs r)), .flat (.bool true)] := by rw [tNum, hspec, hgood]; rfl
          repeat' (first | (with_reducible first | refine pa ?_ | refine pb ?_ | refine pc ?_ | refine nxt_n ?_ | refine nxt_e ?_ | refine nxt_r ?_ | refine blk_n ?_ | refine blk_r ?_ | refine blk_hit ?_ | refine blk_miss (by rfl) ?_ | refine pd ?_ | refine pe ?_ | refine pf ?_ | refine pg ?_ | apply And.intro) | (refine hK _ ?_; first | clear hK K hn0 hcl hΘ Θ | clear hK K hΘ Θ) | (with_reducible first | refine cw1 ?_ | refine cw2 ?_ | exact cw3 | exact cw4) | ((with_reducible first | refine cw5 (fun gg => ?_) | refine cw6 (fun gg => ?_) | refine cw7 (fun gg => ?_)); try simp only [gg]) | refine cs1 hG rfl ?_ ?_ | refine cs2 hG rfl ?_ ?_ | ((first | refine rga hG (by kernel_rfl) (fun Θ K hΘ hK => ?_) | refine rgb hG (by kernel_rfl) (fun Θ K hΘ hK => ?_) | refine rgc defCl hG (by kernel_rfl) cl0 (by rfl) (by kernel_rfl) (fun Θ K hΘ hcl hn0 hK => ?_) | refine rgd defCl hG (by kernel_rfl) cl0 (by rfl) (by kernel_rfl) (fun Θ K hΘ hcl hn0 hK => ?_)); simp (maxSteps := 2000000) only [go_sem, seval, reduceCtorEq, g1, htk, p1, p2, hg1, g2, p3, hw6, hdr, hr]) | ((first | refine Post.splitN (fun gg => ?_) (fun gg => ?_) | refine PostB.splitN (fun gg => ?_) (fun gg => ?_) | refine Post.split (fun gg => ?_) (fun gg => ?_) | refine PostB.split (fun gg => ?_) (fun gg => ?_)) <;> simp (maxSteps := 2000000) only [go_sem, seval, reduceCtorEq, gg, g1, htk, p1, p2, hg1, g2, p3, hw6, hdr, hr]) | (refine finR (by simp only [go_sem, seval, reduceCtorEq, g1, htk, p1, p2, hg1, g2, p3, hw6, hdr, hr]; exact rfl) ?_; simp only [go_sem, seval, reduceCtorEq, g1, htk, p1, p2, hg1, g2, p3, hw6, hdr, hr]) | refine updL hM ?_ (by omega) | (with_reducible exact fun _ _ => rfl))
          all_goals (first | omega | (simp only [decide_eq_true_eq, decide_eq_false_iff_not] at *; omega) | (simp only [List.length_append, List.length_cons, List.length_nil] <;> omega) | exact one_bv _ | exact one_sv _ | skip)
      · have p2 : ((t.length : Int) > 0) = False := eq_false (by omega)
        have hgood : badNum t = false := by
          simp only [badNum, Bool.or_eq_false_iff, Bool.and_eq_false_iff, decide_eq_false_iff_not]
          exact ⟨⟨by omega, .inl h0⟩, .inl (by omega)⟩
        have hr : tNum (h :: (t ++ r)) = .tup [.flat (.int .i64 (be t)), .flat (.string (bs r)), .flat (.bool true)] := by rw [tNum, hspec, hgood]; rfl
        repeat' (first | (with_reducible first | refine pa ?_ | refine pb ?_ | refine pc ?_ | refine nxt_n ?_ | refine nxt_e ?_ | refine nxt_r ?_ | refine blk_n ?_ | refine blk_r ?_ | refine blk_hit ?_ | refine blk_miss (by rfl) ?_ | refine pd ?_ | refine pe ?_ | refine pf ?_ | refine pg ?_ | apply And.intro) | (refine hK _ ?_; first | clear hK K hn0 hcl hΘ Θ | clear hK K hΘ Θ) | (with_reducible first | refine cw1 ?_ | refine cw2 ?_ | exact cw3 | exact cw4) | ((with_reducible first | refine cw5 (fun gg => ?_) | refine cw6 (fun gg => ?_) | refine cw7 (fun gg => ?_)); try simp only [gg]) | refine cs1 hG rfl ?_ ?_ | refine cs2 hG rfl ?_ ?_ | ((first | refine rga hG (by kernel_rfl) (fun Θ K hΘ hK => ?_) | refine rgb hG (by kernel_rfl) (fun Θ K hΘ hK => ?_) | refine rgc defCl hG (by kernel_rfl) cl0 (by rfl) (by kernel_rfl) (fun Θ K hΘ hcl hn0 hK => ?_) | refine rgd defCl hG (by kernel_rfl) cl0 (by rfl) (by kernel_rfl) (fun Θ K hΘ hcl hn0 hK => ?_)); simp (maxSteps := 2000000) only [go_sem, seval, reduceCtorEq, g1, htk, p1, p2, hw6, hdr, hr]) | ((first | refine Post.splitN (fun gg => ?_) (fun gg => ?_) | refine PostB.splitN (fun gg => ?_) (fun gg => ?_) | refine Post.split (fun gg => ?_) (fun gg => ?_) | refine PostB.split (fun gg => ?_) (fun gg => ?_)) <;> simp (maxSteps := 2000000) only [go_sem, seval, reduceCtorEq, gg, g1, htk, p1, p2, hw6, hdr, hr]) | (refine finR (by simp only [go_sem, seval, reduceCtorEq, g1, htk, p1, p2, hw6, hdr, hr]; exact rfl) ?_; simp only [go_sem, seval, reduceCtorEq, g1, htk, p1, p2, hw6, hdr, hr]) | refine updL hM ?_ (by omega) | (with_reducible exact fun _ _ => rfl))
        all_goals (first | omega | (simp only [decide_eq_true_eq, decide_eq_false_iff_not] at *; omega) | (simp only [List.length_append, List.length_cons, List.length_nil] <;> omega) | exact one_bv _ | exact one_sv _ | skip)
end Go.VL
