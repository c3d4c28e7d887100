/- Part TLaw18b of the proof: made for this claim. -/
import Derived.Test.YtljfmgfokifooaaTMSame
set_option linter.unusedVariables false
set_option linter.unusedSimpArgs false
set_option maxRecDepth 100000
set_option maxHeartbeats 8000000
open Go.RowKit
namespace Go.VL
open Go.Proofs
theorem mail0_ok : mail0.ok := mailK_ok (k := 0) (by unfold inR; omega)
theorem rdM_ok (s : List UInt8) : (rdM s).1.ok := by
  cases h : (rdM s).2
  · unfold rdM at h ⊢
    split at h
    · rename_i hc
      rw [dif_pos hc]
      split at h
      · cases h
      · rename_i q; rw [if_neg q]; exact mail0_ok
    · rename_i hc
      rw [dif_neg hc]; exact mail0_ok
  · exact (rdM_back h).1
theorem MailReads_sp (s : List UInt8) (hs : s.length ≤ 140737488351232) : Rt 4 [.flat (.string (bs s))] (.flat (.bool true)) := by
  by_cases hl : s.length > 8192
  · have f1 : ((s.length : Int) > 8192) = True := eq_true (by omega)
    intro M mn
    refine fnL (C := kc 48 [] []) (rs := [.tmp 2]) envOk Try.func4 (by kernel_rfl) rfl rfl rfl rfl rfl rfl (Low.flat _) ?_
    intro E hG hM
    repeat' (first | (with_reducible first | refine pa ?_ | refine pb ?_ | refine pc ?_ | refine nxt_n ?_ | refine nxt_e ?_ | refine nxt_r ?_ | refine blk_n ?_ | refine blk_r ?_ | refine blk_hit ?_ | refine blk_miss (by rfl) ?_ | refine pd ?_ | refine pe ?_ | refine pf ?_ | refine pg ?_ | apply And.intro) | (refine hK _ ?_; clear hK K hΘ Θ) | (with_reducible first | refine cw1 ?_ | refine cw2 ?_ | exact cw3 | exact cw4) | ((with_reducible first | refine cw5 (fun gg => ?_) | refine cw6 (fun gg => ?_) | refine cw7 (fun gg => ?_)); try simp only [gg]) | refine cs1 hG rfl ?_ ?_ | refine cs2 hG rfl ?_ ?_ | ((first | refine kg (alive18_sp _ _) rfl hΘ ?_ | refine rga hG (by kernel_rfl) (fun Θ K hΘ hK => ?_) | refine rgb hG (by kernel_rfl) (fun Θ K hΘ hK => ?_)); simp (maxSteps := 2000000) only [go_sem, seval, reduceCtorEq, f1]) | ((first | refine Post.splitN (fun gg => ?_) (fun gg => ?_) | refine Post.split (fun gg => ?_) (fun gg => ?_)) <;> simp (maxSteps := 2000000) only [go_sem, seval, reduceCtorEq, gg, f1]) | (refine finR (by simp only [go_sem, seval, reduceCtorEq, f1]; exact rfl) ?_; simp only [go_sem, seval, reduceCtorEq, f1]) | refine updL hM ?_ (by omega) | (with_reducible exact fun _ _ => rfl))
    all_goals (first | omega | (simp only [decide_eq_true_eq, decide_eq_false_iff_not] at *; omega) | (simp only [List.length_append, List.length_cons, List.length_nil] <;> omega) | exact one_bv _ | exact one_sv _ | skip)
  have f1 : ((s.length : Int) > 8192) = False := eq_false (by omega)
  have cR := MRead_sp s
  have cQ := R18Read_sp s (by omega)
  have hok := rdM_ok s
  have cS := R18Same_sp (rdM s).1 (rdM s).1 hok hok
  have hb := @rdM_back s
  have hd : decide ((rdM s).1 = (rdM s).1) = true := decide_eq_true rfl
  rw [hd] at cS
  generalize rdM s = R at *
  obtain ⟨m, ok⟩ := R
  cases ok
  · simp only at cR cQ cS
    intro M mn
    refine fnL (C := kc 48 [] []) (rs := [.tmp 2]) envOk Try.func4 (by kernel_rfl) rfl rfl rfl rfl rfl rfl (Low.flat _) ?_
    intro E hG hM
    have w1 : ∀ x y, upd (upd M mn x) (mn + 1) y mn = x := fun x y => by rw [upd_ne _ _ (by omega), upd_same]
    repeat' (first | (with_reducible first | refine pa ?_ | refine pb ?_ | refine pc ?_ | refine nxt_n ?_ | refine nxt_e ?_ | refine nxt_r ?_ | refine blk_n ?_ | refine blk_r ?_ | refine blk_hit ?_ | refine blk_miss (by rfl) ?_ | refine pd ?_ | refine pe ?_ | refine pf ?_ | refine pg ?_ | apply And.intro) | (refine hK _ ?_; clear hK K hΘ Θ) | (with_reducible first | refine cw1 ?_ | refine cw2 ?_ | exact cw3 | exact cw4) | ((with_reducible first | refine cw5 (fun gg => ?_) | refine cw6 (fun gg => ?_) | refine cw7 (fun gg => ?_)); try simp only [gg]) | refine cs1 hG rfl ?_ ?_ | refine cs2 hG rfl ?_ ?_ | ((first | refine kg (alive18_sp _ _) rfl hΘ ?_ | refine kg (cR _ _) rfl hΘ ?_ | refine kg (cQ _ _) rfl hΘ ?_ | refine kg (cS _ _) rfl hΘ ?_ | refine rga hG (by kernel_rfl) (fun Θ K hΘ hK => ?_) | refine rgb hG (by kernel_rfl) (fun Θ K hΘ hK => ?_)); simp (maxSteps := 2000000) only [go_sem, seval, reduceCtorEq, f1, w1]) | ((first | refine Post.splitN (fun gg => ?_) (fun gg => ?_) | refine Post.split (fun gg => ?_) (fun gg => ?_)) <;> simp (maxSteps := 2000000) only [go_sem, seval, reduceCtorEq, gg, f1, w1]) | (refine finR (by simp only [go_sem, seval, reduceCtorEq, f1, w1]; exact rfl) ?_; simp only [go_sem, seval, reduceCtorEq, f1, w1]) | refine updL hM ?_ (by omega) | (with_reducible exact fun _ _ => rfl))
    all_goals (first | omega | (simp only [decide_eq_true_eq, decide_eq_false_iff_not] at *; omega) | (simp only [List.length_append, List.length_cons, List.length_nil] <;> omega) | exact one_bv _ | exact one_sv _ | skip)
  · obtain ⟨_, _, htx, htt⟩ := hb rfl
    have cX := MText_sp m hok (by simp only at htt; omega)
    simp only at cR cQ cS htx
    rw [htx] at cX
    intro M mn
    refine fnL (C := kc 48 [] []) (rs := [.tmp 2]) envOk Try.func4 (by kernel_rfl) rfl rfl rfl rfl rfl rfl (Low.flat _) ?_
    intro E hG hM
    have w1 : ∀ x y, upd (upd M mn x) (mn + 1) y mn = x := fun x y => by rw [upd_ne _ _ (by omega), upd_same]
    repeat' (first | (with_reducible first | refine pa ?_ | refine pb ?_ | refine pc ?_ | refine nxt_n ?_ | refine nxt_e ?_ | refine nxt_r ?_ | refine blk_n ?_ | refine blk_r ?_ | refine blk_hit ?_ | refine blk_miss (by rfl) ?_ | refine pd ?_ | refine pe ?_ | refine pf ?_ | refine pg ?_ | apply And.intro) | (refine hK _ ?_; clear hK K hΘ Θ) | (with_reducible first | refine cw1 ?_ | refine cw2 ?_ | exact cw3 | exact cw4) | ((with_reducible first | refine cw5 (fun gg => ?_) | refine cw6 (fun gg => ?_) | refine cw7 (fun gg => ?_)); try simp only [gg]) | refine cs1 hG rfl ?_ ?_ | refine cs2 hG rfl ?_ ?_ | ((first | refine kg (alive18_sp _ _) rfl hΘ ?_ | refine kg (cR _ _) rfl hΘ ?_ | refine kg (cQ _ _) rfl hΘ ?_ | refine kg (cS _ _) rfl hΘ ?_ | refine kg (cX _ _) rfl hΘ ?_ | refine rga hG (by kernel_rfl) (fun Θ K hΘ hK => ?_) | refine rgb hG (by kernel_rfl) (fun Θ K hΘ hK => ?_)); simp (maxSteps := 2000000) only [go_sem, seval, reduceCtorEq, f1, w1]) | ((first | refine Post.splitN (fun gg => ?_) (fun gg => ?_) | refine Post.split (fun gg => ?_) (fun gg => ?_)) <;> simp (maxSteps := 2000000) only [go_sem, seval, reduceCtorEq, gg, f1, w1]) | (refine finR (by simp only [go_sem, seval, reduceCtorEq, f1, w1]; exact rfl) ?_; simp only [go_sem, seval, reduceCtorEq, f1, w1]) | refine updL hM ?_ (by omega) | (with_reducible exact fun _ _ => rfl))
    all_goals (first | omega | (simp only [decide_eq_true_eq, decide_eq_false_iff_not] at *; omega) | (simp only [List.length_append, List.length_cons, List.length_nil] <;> omega) | exact one_bv _ | exact one_sv _ | skip)
end Go.VL
