/- Part TLaw5b of the proof: made for this claim. -/
import Derived.Test.YtehnaighaabbjaaDoorTLaw5
set_option linter.unusedVariables false
set_option linter.unusedSimpArgs false
set_option maxRecDepth 100000
set_option maxHeartbeats 8000000
open Go.RowKit
namespace Go.VL
open Go.Proofs
/-! From each leaf to the root. -/
theorem climb_path (l : List Id16) : ∀ (c k a : Nat), climbL (atE l k a) (a : Int) k (pathF l k a c) = atE l (k + c) (a / 2 ^ c)
  | 0, k, a => by rw [pathF, climbL]; simp
  | c + 1, k, a => by
    rw [pathF, climbL]
    have h2 : ((a : Int) / 2) = ((a / 2 : Nat) : Int) := by omega
    have hs : (if (a : Int) % 2 = 1 then upE (atE l k (beside a)) (atE l k a) (k + 1 : Nat) ((a : Int) / 2) else upE (atE l k a) (atE l k (beside a)) (k + 1 : Nat) ((a : Int) / 2)) = atE l (k + 1) (a / 2) := by
      rw [atE, h2]
      by_cases h : a % 2 = 1
      · rw [if_pos (by omega), beside, if_pos h, show a - 1 = 2 * (a / 2) by omega]
        congr 1
        rw [show 2 * (a / 2) + 1 = a by omega]
      · rw [if_neg (by omega), beside, if_neg h, show 2 * (a / 2) = a by omega]
    rw [hs, h2, climb_path l c (k + 1) (a / 2), Nat.div_div_eq_div_mul, show 2 * 2 ^ c = 2 ^ (c + 1) by rw [Nat.pow_succ]; omega, show k + 1 + c = k + (c + 1) by omega]
theorem climb_root (l : List Id16) (H i : Nat) (hl : l.length = 2 ^ H) (hi : i < l.length) : climbE (l.getD i z16) (i : Int) (pathF l 0 i H) = atE l H 0 := by
  have h := climb_path l H 0 i
  rw [Nat.zero_add, Nat.div_eq_of_lt (by omega)] at h
  exact h
theorem TreeBack_sp (l : List Id16) (a : Int) (hl : l.length * 16 ≤ 140737488351232) (ha : -9223372036854775808 ≤ a ∧ a ≤ 9223372036854775807) : Rt 10 [.sl false 16 l.length (esC l), .flat (.int .i64 a)] (.flat (.bool true)) := by
  by_cases hg : goodN l.length
  · have f2 : decide (goodN l.length) = true := decide_eq_true hg
    by_cases h32 : l.length ≤ 32
    · have f1 : ((32 : Int) < l.length) = False := eq_false (by omega)
      obtain ⟨H, hH, hlH⟩ := goodN_pow hg
      have hpos := goodN_le hg
      intro M mn
      refine fnL (C := kc 88 [] []) (rs := [.tmp 4]) envOk Tryd.func10 (by kernel_rfl) rfl rfl rfl rfl rfl rfl (Low.flat _) ?_
      intro E hG hM
      repeat' (first | (with_reducible first | refine pa ?_ | refine pb ?_ | refine pc ?_ | refine nxt_n ?_ | refine nxt_e ?_ | refine nxt_r ?_ | refine blk_n ?_ | refine blk_r ?_ | refine blk_hit ?_ | refine blk_miss (by rfl) ?_ | refine pd ?_ | refine pe ?_ | refine pf ?_ | refine pg ?_ | apply And.intro) | (refine hK _ ?_; first | clear hK K hn0 hcl hΘ Θ | clear hK K hΘ Θ) | (with_reducible first | refine cw1 ?_ | refine cw2 ?_ | exact cw3 | exact cw4) | ((with_reducible first | refine cw5 (fun gg => ?_) | refine cw6 (fun gg => ?_) | refine cw7 (fun gg => ?_)); try simp only [gg]) | refine cs1 hG rfl ?_ ?_ | refine cs2 hG rfl ?_ ?_ | ((first | refine kg (alive5_sp _ _) rfl hΘ ?_ | refine kg (elems_sp l hl _ _) rfl hΘ ?_ | refine kg (Root_sp l H hH hlH hg _ _) rfl hΘ ?_ | refine kg (RGood_sp l.length _ _) rfl hΘ ?_ | refine rga hG (by kernel_rfl) (fun Θ K hΘ hK => ?_) | refine rgb hG (by kernel_rfl) (fun Θ K hΘ hK => ?_) | refine rgc defCl hG (by kernel_rfl) cl0 (by rfl) (by kernel_rfl) (fun Θ K hΘ hcl hn0 hK => ?_) | refine rgd defCl hG (by kernel_rfl) cl0 (by rfl) (by kernel_rfl) (fun Θ K hΘ hcl hn0 hK => ?_)); simp (maxSteps := 2000000) only [go_sem, seval, Nat.reduceEqDiff, Nat.reduceLeDiff, reduceIte, reduceCtorEq, f1, f2]) | ((first | refine Post.splitN (fun gg => ?_) (fun gg => ?_) | refine PostB.splitN (fun gg => ?_) (fun gg => ?_) | refine Post.split (fun gg => ?_) (fun gg => ?_) | refine PostB.split (fun gg => ?_) (fun gg => ?_)) <;> simp (maxSteps := 2000000) only [go_sem, seval, Nat.reduceEqDiff, Nat.reduceLeDiff, reduceIte, reduceCtorEq, gg, f1, f2]) | ((first | refine finR (by simp only [go_sem, seval, Nat.reduceEqDiff, Nat.reduceLeDiff, reduceIte, reduceCtorEq, f1, f2]; exact rfl) ?_ | refine finN (by simp only [go_sem, seval, Nat.reduceEqDiff, Nat.reduceLeDiff, reduceIte, reduceCtorEq, f1, f2]; exact rfl) ?_); simp only [go_sem, seval, Nat.reduceEqDiff, Nat.reduceLeDiff, reduceIte, reduceCtorEq, f1, f2]) | refine updL hM ?_ (by omega) | (with_reducible exact fun _ _ => rfl))
      all_goals (first | omega | (simp only [decide_eq_true_eq, decide_eq_false_iff_not] at *; omega) | (simp only [List.length_append, List.length_cons, List.length_nil] <;> omega) | exact one_bv _ | exact one_sv _ | skip)
      refine WC.loopA (fun i : Nat => ⟨[(33, .flat (.int .i64 i)), (32, .flat (.int .i64 l.length)), (8, .flat (.int .i64 0)), (7, .bp mn 0), (6, .flat (.int .i64 l.length)), (5, .sl false 16 l.length (esC l)), (1, .flat (.int .i64 a))], upd M mn (some (bv (atE l H 0).1)), mn + 1⟩) (fun i => l.length - i) (fun i => i ≤ l.length) 0 (by omega) (sbs (by simp (maxSteps := 2000000) only [go_sem, seval, Nat.reduceEqDiff, Nat.reduceLeDiff, reduceIte, reduceCtorEq]) rfl rfl) ?_
      intro i hi
      by_cases h : i < l.length
      · have f3 : ((i : Int) < l.length) = True := eq_true (by omega)
        have g1 : (i < l.length) = True := eq_true h
        have v1 := wi1 (n := i) (by omega)
        have g2 := esC_get l i h
        have hr := climb_root l H i hlH h
        have hpl := pathF_len l H 0 i
        obtain ⟨w, hw⟩ : ∃ w : Nat, a % 18446744073709551616 = (w : Int) := ⟨(a % 18446744073709551616).toNat, by omega⟩
        have v2 : IntKind.u64.wrap a = (w : Int) := by
          show a % 18446744073709551616 = _
          exact hw
        have v3 : IntKind.u64.wrap (l.length : Int) = (l.length : Int) := by rw [wrap_u64n]; congr 1; omega
        have hk : w % l.length < l.length := Nat.mod_lt _ (by omega)
        have v4 : (w : Int).tmod (l.length : Int) = ((w % l.length : Nat) : Int) := tmodN w l.length
        generalize w % l.length = k at hk v4
        have v5 : IntKind.i64.wrap (k : Int) = (k : Int) := wi0 (by omega)
        have g3 : (k < l.length) = True := eq_true hk
        have g4 := esC_get l k hk
        have f5 : ((l.length : Int) = 0) = False := eq_false (by omega)
        have hin : inR (k : Int) := by unfold inR; omega
        have hin2 : inR (i : Int) := by unfold inR; omega
        have hc1 := Climb_sp (l.getD i z16) i hin2 (pathF l 0 i H) (by rw [hpl]; omega)
        have hc2 := Climb_sp (l.getD k z16) k hin (pathF l 0 i H) (by rw [hpl]; omega)
        have hc3 := RClimb_sp (l.getD k z16) k hin (pathF l 0 i H) (by rw [hpl]; omega)
        rw [hpl] at hc1 hc2 hc3
        rw [hr] at hc1
        repeat' (first | (with_reducible first | refine pa ?_ | refine pb ?_ | refine pc ?_ | refine nxt_n ?_ | refine nxt_e ?_ | refine nxt_r ?_ | refine blk_n ?_ | refine blk_r ?_ | refine blk_hit ?_ | refine blk_miss (by rfl) ?_ | refine pd ?_ | refine pe ?_ | refine pf ?_ | refine pg ?_ | apply And.intro) | (refine hK _ ?_; first | clear hK K hn0 hcl hΘ Θ | clear hK K hΘ Θ) | (with_reducible first | refine cw1 ?_ | refine cw2 ?_ | exact cw3 | exact cw4) | ((with_reducible first | refine cw5 (fun gg => ?_) | refine cw6 (fun gg => ?_) | refine cw7 (fun gg => ?_)); try simp only [gg]) | refine cs1 hG rfl ?_ ?_ | refine cs2 hG rfl ?_ ?_ | ((first | refine kg (Path_sp l H hH hlH hg i h _ _) rfl hΘ ?_ | refine kf (fun M n => hc1 M n) rfl (by decide) cl0 hΘ hcl hn0 ?_ | refine kf (fun M n => RHeightL H l.length (by omega) hlH M n) rfl (by decide) cl0 hΘ hcl hn0 ?_ | refine kf (fun M n => hc2 M n) rfl (by decide) cl0 hΘ hcl hn0 ?_ | refine kf (fun M n => hc3 M n) rfl (by decide) cl0 hΘ hcl hn0 ?_ | refine rga hG (by kernel_rfl) (fun Θ K hΘ hK => ?_) | refine rgb hG (by kernel_rfl) (fun Θ K hΘ hK => ?_) | refine rgc defCl hG (by kernel_rfl) cl0 (by rfl) (by kernel_rfl) (fun Θ K hΘ hcl hn0 hK => ?_) | refine rgd defCl hG (by kernel_rfl) cl0 (by rfl) (by kernel_rfl) (fun Θ K hΘ hcl hn0 hK => ?_)); simp (maxSteps := 2000000) only [go_sem, seval, Nat.reduceEqDiff, Nat.reduceLeDiff, reduceIte, reduceCtorEq, f1, f2, f3, g1, v1, g2, v2, v3, v4, v5, g3, g4, f5]) | ((first | refine Post.splitN (fun gg => ?_) (fun gg => ?_) | refine PostB.splitN (fun gg => ?_) (fun gg => ?_) | refine Post.split (fun gg => ?_) (fun gg => ?_) | refine PostB.split (fun gg => ?_) (fun gg => ?_)) <;> simp (maxSteps := 2000000) only [go_sem, seval, Nat.reduceEqDiff, Nat.reduceLeDiff, reduceIte, reduceCtorEq, gg, f1, f2, f3, g1, v1, g2, v2, v3, v4, v5, g3, g4, f5]) | ((first | refine finR (by simp only [go_sem, seval, Nat.reduceEqDiff, Nat.reduceLeDiff, reduceIte, reduceCtorEq, f1, f2, f3, g1, v1, g2, v2, v3, v4, v5, g3, g4, f5]; exact rfl) ?_ | refine finN (by simp only [go_sem, seval, Nat.reduceEqDiff, Nat.reduceLeDiff, reduceIte, reduceCtorEq, f1, f2, f3, g1, v1, g2, v2, v3, v4, v5, g3, g4, f5]; exact rfl) ?_); simp only [go_sem, seval, Nat.reduceEqDiff, Nat.reduceLeDiff, reduceIte, reduceCtorEq, f1, f2, f3, g1, v1, g2, v2, v3, v4, v5, g3, g4, f5]) | refine updL hM ?_ (by omega) | (with_reducible exact fun _ _ => rfl))
        all_goals (first | omega | (simp only [decide_eq_true_eq, decide_eq_false_iff_not] at *; omega) | (simp only [List.length_append, List.length_cons, List.length_nil] <;> omega) | exact one_bv _ | exact one_sv _ | skip)
        exact ⟨i + 1, by omega, by omega, (sbs (by simp (maxSteps := 2000000) only [go_sem, seval, Nat.reduceEqDiff, Nat.reduceLeDiff, reduceIte, reduceCtorEq]) rfl rfl)⟩
      · have f3 : ((i : Int) < l.length) = False := eq_false (by omega)
        repeat' (first | (with_reducible first | refine pa ?_ | refine pb ?_ | refine pc ?_ | refine nxt_n ?_ | refine nxt_e ?_ | refine nxt_r ?_ | refine blk_n ?_ | refine blk_r ?_ | refine blk_hit ?_ | refine blk_miss (by rfl) ?_ | refine pd ?_ | refine pe ?_ | refine pf ?_ | refine pg ?_ | apply And.intro) | (refine hK _ ?_; first | clear hK K hn0 hcl hΘ Θ | clear hK K hΘ Θ) | (with_reducible first | refine cw1 ?_ | refine cw2 ?_ | exact cw3 | exact cw4) | ((with_reducible first | refine cw5 (fun gg => ?_) | refine cw6 (fun gg => ?_) | refine cw7 (fun gg => ?_)); try simp only [gg]) | refine cs1 hG rfl ?_ ?_ | refine cs2 hG rfl ?_ ?_ | ((first | refine rga hG (by kernel_rfl) (fun Θ K hΘ hK => ?_) | refine rgb hG (by kernel_rfl) (fun Θ K hΘ hK => ?_) | refine rgc defCl hG (by kernel_rfl) cl0 (by rfl) (by kernel_rfl) (fun Θ K hΘ hcl hn0 hK => ?_) | refine rgd defCl hG (by kernel_rfl) cl0 (by rfl) (by kernel_rfl) (fun Θ K hΘ hcl hn0 hK => ?_)); simp (maxSteps := 2000000) only [go_sem, seval, Nat.reduceEqDiff, Nat.reduceLeDiff, reduceIte, reduceCtorEq, f3]) | ((first | refine Post.splitN (fun gg => ?_) (fun gg => ?_) | refine PostB.splitN (fun gg => ?_) (fun gg => ?_) | refine Post.split (fun gg => ?_) (fun gg => ?_) | refine PostB.split (fun gg => ?_) (fun gg => ?_)) <;> simp (maxSteps := 2000000) only [go_sem, seval, Nat.reduceEqDiff, Nat.reduceLeDiff, reduceIte, reduceCtorEq, gg, f3]) | ((first | refine finR (by simp only [go_sem, seval, Nat.reduceEqDiff, Nat.reduceLeDiff, reduceIte, reduceCtorEq, f3]; exact rfl) ?_ | refine finN (by simp only [go_sem, seval, Nat.reduceEqDiff, Nat.reduceLeDiff, reduceIte, reduceCtorEq, f3]; exact rfl) ?_); simp only [go_sem, seval, Nat.reduceEqDiff, Nat.reduceLeDiff, reduceIte, reduceCtorEq, f3]) | refine updL hM ?_ (by omega) | (with_reducible exact fun _ _ => rfl))
        all_goals (first | omega | (simp only [decide_eq_true_eq, decide_eq_false_iff_not] at *; omega) | (simp only [List.length_append, List.length_cons, List.length_nil] <;> omega) | exact one_bv _ | exact one_sv _ | skip)
    · have f1 : ((32 : Int) < l.length) = True := eq_true (by omega)
      intro M mn
      refine fnL (C := kc 88 [] []) (rs := [.tmp 4]) envOk Tryd.func10 (by kernel_rfl) rfl rfl rfl rfl rfl rfl (Low.flat _) ?_
      intro E hG hM
      repeat' (first | (with_reducible first | refine pa ?_ | refine pb ?_ | refine pc ?_ | refine nxt_n ?_ | refine nxt_e ?_ | refine nxt_r ?_ | refine blk_n ?_ | refine blk_r ?_ | refine blk_hit ?_ | refine blk_miss (by rfl) ?_ | refine pd ?_ | refine pe ?_ | refine pf ?_ | refine pg ?_ | apply And.intro) | (refine hK _ ?_; first | clear hK K hn0 hcl hΘ Θ | clear hK K hΘ Θ) | (with_reducible first | refine cw1 ?_ | refine cw2 ?_ | exact cw3 | exact cw4) | ((with_reducible first | refine cw5 (fun gg => ?_) | refine cw6 (fun gg => ?_) | refine cw7 (fun gg => ?_)); try simp only [gg]) | refine cs1 hG rfl ?_ ?_ | refine cs2 hG rfl ?_ ?_ | ((first | refine kg (alive5_sp _ _) rfl hΘ ?_ | refine kg (elems_sp l hl _ _) rfl hΘ ?_ | refine kg (RGood_sp l.length _ _) rfl hΘ ?_ | refine rga hG (by kernel_rfl) (fun Θ K hΘ hK => ?_) | refine rgb hG (by kernel_rfl) (fun Θ K hΘ hK => ?_) | refine rgc defCl hG (by kernel_rfl) cl0 (by rfl) (by kernel_rfl) (fun Θ K hΘ hcl hn0 hK => ?_) | refine rgd defCl hG (by kernel_rfl) cl0 (by rfl) (by kernel_rfl) (fun Θ K hΘ hcl hn0 hK => ?_)); simp (maxSteps := 2000000) only [go_sem, seval, Nat.reduceEqDiff, Nat.reduceLeDiff, reduceIte, reduceCtorEq, f1, f2]) | ((first | refine Post.splitN (fun gg => ?_) (fun gg => ?_) | refine PostB.splitN (fun gg => ?_) (fun gg => ?_) | refine Post.split (fun gg => ?_) (fun gg => ?_) | refine PostB.split (fun gg => ?_) (fun gg => ?_)) <;> simp (maxSteps := 2000000) only [go_sem, seval, Nat.reduceEqDiff, Nat.reduceLeDiff, reduceIte, reduceCtorEq, gg, f1, f2]) | ((first | refine finR (by simp only [go_sem, seval, Nat.reduceEqDiff, Nat.reduceLeDiff, reduceIte, reduceCtorEq, f1, f2]; exact rfl) ?_ | refine finN (by simp only [go_sem, seval, Nat.reduceEqDiff, Nat.reduceLeDiff, reduceIte, reduceCtorEq, f1, f2]; exact rfl) ?_); simp only [go_sem, seval, Nat.reduceEqDiff, Nat.reduceLeDiff, reduceIte, reduceCtorEq, f1, f2]) | refine updL hM ?_ (by omega) | (with_reducible exact fun _ _ => rfl))
      all_goals (first | omega | (simp only [decide_eq_true_eq, decide_eq_false_iff_not] at *; omega) | (simp only [List.length_append, List.length_cons, List.length_nil] <;> omega) | exact one_bv _ | exact one_sv _ | skip)
  · have f2 : decide (goodN l.length) = false := decide_eq_false hg
    intro M mn
    refine fnL (C := kc 88 [] []) (rs := [.tmp 4]) envOk Tryd.func10 (by kernel_rfl) rfl rfl rfl rfl rfl rfl (Low.flat _) ?_
    intro E hG hM
    repeat' (first | (with_reducible first | refine pa ?_ | refine pb ?_ | refine pc ?_ | refine nxt_n ?_ | refine nxt_e ?_ | refine nxt_r ?_ | refine blk_n ?_ | refine blk_r ?_ | refine blk_hit ?_ | refine blk_miss (by rfl) ?_ | refine pd ?_ | refine pe ?_ | refine pf ?_ | refine pg ?_ | apply And.intro) | (refine hK _ ?_; first | clear hK K hn0 hcl hΘ Θ | clear hK K hΘ Θ) | (with_reducible first | refine cw1 ?_ | refine cw2 ?_ | exact cw3 | exact cw4) | ((with_reducible first | refine cw5 (fun gg => ?_) | refine cw6 (fun gg => ?_) | refine cw7 (fun gg => ?_)); try simp only [gg]) | refine cs1 hG rfl ?_ ?_ | refine cs2 hG rfl ?_ ?_ | ((first | refine kg (alive5_sp _ _) rfl hΘ ?_ | refine kg (elems_sp l hl _ _) rfl hΘ ?_ | refine kg (RGood_sp l.length _ _) rfl hΘ ?_ | refine rga hG (by kernel_rfl) (fun Θ K hΘ hK => ?_) | refine rgb hG (by kernel_rfl) (fun Θ K hΘ hK => ?_) | refine rgc defCl hG (by kernel_rfl) cl0 (by rfl) (by kernel_rfl) (fun Θ K hΘ hcl hn0 hK => ?_) | refine rgd defCl hG (by kernel_rfl) cl0 (by rfl) (by kernel_rfl) (fun Θ K hΘ hcl hn0 hK => ?_)); simp (maxSteps := 2000000) only [go_sem, seval, Nat.reduceEqDiff, Nat.reduceLeDiff, reduceIte, reduceCtorEq, f2]) | ((first | refine Post.splitN (fun gg => ?_) (fun gg => ?_) | refine PostB.splitN (fun gg => ?_) (fun gg => ?_) | refine Post.split (fun gg => ?_) (fun gg => ?_) | refine PostB.split (fun gg => ?_) (fun gg => ?_)) <;> simp (maxSteps := 2000000) only [go_sem, seval, Nat.reduceEqDiff, Nat.reduceLeDiff, reduceIte, reduceCtorEq, gg, f2]) | ((first | refine finR (by simp only [go_sem, seval, Nat.reduceEqDiff, Nat.reduceLeDiff, reduceIte, reduceCtorEq, f2]; exact rfl) ?_ | refine finN (by simp only [go_sem, seval, Nat.reduceEqDiff, Nat.reduceLeDiff, reduceIte, reduceCtorEq, f2]; exact rfl) ?_); simp only [go_sem, seval, Nat.reduceEqDiff, Nat.reduceLeDiff, reduceIte, reduceCtorEq, f2]) | refine updL hM ?_ (by omega) | (with_reducible exact fun _ _ => rfl))
    all_goals (first | omega | (simp only [decide_eq_true_eq, decide_eq_false_iff_not] at *; omega) | (simp only [List.length_append, List.length_cons, List.length_nil] <;> omega) | exact one_bv _ | exact one_sv _ | skip)
end Go.VL
