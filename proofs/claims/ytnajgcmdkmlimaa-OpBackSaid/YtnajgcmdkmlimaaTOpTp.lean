/- Part TOpTp of the proof: made for this claim. -/
import Derived.Test.YtnajgcmdkmlimaaTOp
import Derived.Test.YtnajgcmdkmlimaaOpText
set_option linter.unusedVariables false
set_option linter.unusedSimpArgs false
set_option maxRecDepth 100000
set_option maxHeartbeats 8000000
open Go.RowKit
namespace Go.VL
open Go.Proofs
/-! An operation's bytes, its name. -/
theorem OText_sp (o : Opn) (ho : o.ok) (h0 : o.ps.length ≤ 1000) (h1 : o.d.key.length ≤ 1000) (h2 : o.d.val.length ≤ 1000) : Rt 40 [.agg (OpR.c ⟨o.d, o.a, o.dep, .sl false 32 o.ps.length (idsC o.ps)⟩)] (.flat (.string (bs o.text))) := by
  obtain ⟨d, p, q, ps⟩ := o
  simp only at h0 h1 h2 ⊢
  have ht := Opn.total_le _ ho h0 h1 h2
  obtain ⟨hd, ha, hdep, _⟩ := id ho
  have a1 : p < 9223372036854775808 := by have := ha.2; simp only at this; omega
  have a2 : q < 9223372036854775808 := by have := hdep.2; simp only at this; omega
  have htx : bs (listB [numB p.toNat, numB q.toNat, catI ps, d.text]) = bs (Opn.text ⟨d, p, q, ps⟩) := rfl
  have hL := List_sp [numB p.toNat, numB q.toNat, catI ps, d.text] (Nat.le_trans ht (by omega)) (by simp)
  have hla := idsC_len ps
  have hz1 := opz d p q ps
  intro M mn
  refine fnL (C := kc 30 [13] []) (rs := [.tmp 2]) envOk Try.func40 (by kernel_rfl) rfl rfl rfl rfl rfl rfl (Low.flat _) ?_
  intro E hG hM
  repeat' (first | (with_reducible first | refine pa ?_ | refine pb ?_ | refine pc ?_ | refine nxt_n ?_ | refine nxt_e ?_ | refine nxt_r ?_ | refine blk_n ?_ | refine blk_r ?_ | refine blk_hit ?_ | refine blk_miss (by rfl) ?_ | refine pd ?_ | refine pe ?_ | refine pf ?_ | refine pg ?_ | apply And.intro) | (refine hK _ ?_; first | clear hK K hn0 hcl hΘ Θ | clear hK K hΘ Θ) | (with_reducible first | refine cw1 ?_ | refine cw2 ?_ | exact cw3 | exact cw4) | ((with_reducible first | refine cw5 (fun gg => ?_) | refine cw6 (fun gg => ?_) | refine cw7 (fun gg => ?_)); try simp only [gg]) | refine cs1 hG rfl ?_ ?_ | refine cs2 hG rfl ?_ ?_ | ((first | refine rga hG (by kernel_rfl) (fun Θ K hΘ hK => ?_) | refine rgb hG (by kernel_rfl) (fun Θ K hΘ hK => ?_) | refine rgc defCl hG (by kernel_rfl) cl0 (by rfl) (by kernel_rfl) (fun Θ K hΘ hcl hn0 hK => ?_) | refine rgd defCl hG (by kernel_rfl) cl0 (by rfl) (by kernel_rfl) (fun Θ K hΘ hcl hn0 hK => ?_)); simp (maxSteps := 2000000) only [go_sem, seval, Nat.reduceEqDiff, Nat.reduceLeDiff, reduceIte, reduceCtorEq, hz1]) | ((first | refine Post.splitN (fun gg => ?_) (fun gg => ?_) | refine PostB.splitN (fun gg => ?_) (fun gg => ?_) | refine Post.split (fun gg => ?_) (fun gg => ?_) | refine PostB.split (fun gg => ?_) (fun gg => ?_)) <;> simp (maxSteps := 2000000) only [go_sem, seval, Nat.reduceEqDiff, Nat.reduceLeDiff, reduceIte, reduceCtorEq, gg, hz1]) | ((first | refine finR (by simp only [go_sem, seval, Nat.reduceEqDiff, Nat.reduceLeDiff, reduceIte, reduceCtorEq, hz1]; exact rfl) ?_ | refine finN (by simp only [go_sem, seval, Nat.reduceEqDiff, Nat.reduceLeDiff, reduceIte, reduceCtorEq, hz1]; exact rfl) ?_); simp only [go_sem, seval, Nat.reduceEqDiff, Nat.reduceLeDiff, reduceIte, reduceCtorEq, hz1]) | refine updL hM ?_ (by omega) | (with_reducible exact fun _ _ => rfl))
  all_goals (first | omega | (simp only [decide_eq_true_eq, decide_eq_false_iff_not] at *; omega) | (simp only [List.length_append, List.length_cons, List.length_nil] <;> omega) | exact one_bv _ | exact one_sv _ | skip)
  refine WC.loopA (fun x : Nat × Mem × Nat => ⟨[(9, .flat (.int .i64 x.1)), (8, .flat (.int .i64 ps.length)), (7, .sl false 32 ps.length (idsC ps)), (3, .sl true 1 (catI (ps.take x.1)).length (bv (catI (ps.take x.1)))), (1, .bp mn 0)], x.2.1, x.2.2⟩) (fun x => ps.length - x.1) (fun x => x.1 ≤ ps.length ∧ x.2.1 mn = some (OpR.c ⟨d, p, q, .sl false 32 ps.length (idsC ps)⟩) ∧ (∀ b, M b ≠ none → x.2.1 b = M b) ∧ mn + 1 ≤ x.2.2) (0, upd M mn (some (OpR.c ⟨d, p, q, .sl false 32 ps.length (idsC ps)⟩)), mn + 1) ⟨by simp only; omega, by simp [upd], updL hM (fun _ _ => rfl) (Nat.le_refl _), Nat.le_refl _⟩ (sbs (by simp (maxSteps := 2000000) only [go_sem, seval, Nat.reduceEqDiff, Nat.reduceLeDiff, reduceIte, reduceCtorEq, List.take_zero, catI]) rfl rfl) ?_
  rintro ⟨i, m, n⟩ ⟨hi, hmm, hkm, hn⟩
  simp only at hi hmm hkm hn ⊢
  have hcl := catI_len (ps.take i)
  rw [List.length_take] at hcl
  by_cases h : i < ps.length
  · have g1 : ((i : Int) < (ps.length : Int)) = True := eq_true (by omega)
    have g2 : (i < ps.length) = True := eq_true h
    have v1 := wi1 (n := i) (by omega)
    have ga := idsC_get ps i h
    have k1 : (i * 32 + 32 ≤ ps.length * 32) = True := eq_true (by omega)
    have hx := (ps.getD i z32).2
    have hxt := take_bv32 (ps.getD i z32)
    have hcs := catI_succ ps i h
    have hl2 : (catI (ps.take (i + 1))).length = (catI (ps.take i)).length + 32 := by rw [← hcs, List.length_append, hx]
    generalize catI (ps.take i) = A at *
    repeat' (first | (with_reducible first | refine pa ?_ | refine pb ?_ | refine pc ?_ | refine nxt_n ?_ | refine nxt_e ?_ | refine nxt_r ?_ | refine blk_n ?_ | refine blk_r ?_ | refine blk_hit ?_ | refine blk_miss (by rfl) ?_ | refine pd ?_ | refine pe ?_ | refine pf ?_ | refine pg ?_ | apply And.intro) | (refine hK _ ?_; first | clear hK K hn0 hcl hΘ Θ | clear hK K hΘ Θ) | (with_reducible first | refine cw1 ?_ | refine cw2 ?_ | exact cw3 | exact cw4) | ((with_reducible first | refine cw5 (fun gg => ?_) | refine cw6 (fun gg => ?_) | refine cw7 (fun gg => ?_)); try simp only [gg]) | refine cs1 hG rfl ?_ ?_ | refine cs2 hG rfl ?_ ?_ | ((first | refine rga hG (by kernel_rfl) (fun Θ K hΘ hK => ?_) | refine rgb hG (by kernel_rfl) (fun Θ K hΘ hK => ?_) | refine rgc defCl hG (by kernel_rfl) cl0 (by rfl) (by kernel_rfl) (fun Θ K hΘ hcl hn0 hK => ?_) | refine rgd defCl hG (by kernel_rfl) cl0 (by rfl) (by kernel_rfl) (fun Θ K hΘ hcl hn0 hK => ?_)); simp (maxSteps := 2000000) only [go_sem, seval, Nat.reduceEqDiff, Nat.reduceLeDiff, reduceIte, reduceCtorEq, g1, g2, v1, ga, hla, k1, hx, hxt, hcs]) | ((first | refine Post.splitN (fun gg => ?_) (fun gg => ?_) | refine PostB.splitN (fun gg => ?_) (fun gg => ?_) | refine Post.split (fun gg => ?_) (fun gg => ?_) | refine PostB.split (fun gg => ?_) (fun gg => ?_)) <;> simp (maxSteps := 2000000) only [go_sem, seval, Nat.reduceEqDiff, Nat.reduceLeDiff, reduceIte, reduceCtorEq, gg, g1, g2, v1, ga, hla, k1, hx, hxt, hcs]) | ((first | refine finR (by simp only [go_sem, seval, Nat.reduceEqDiff, Nat.reduceLeDiff, reduceIte, reduceCtorEq, g1, g2, v1, ga, hla, k1, hx, hxt, hcs]; exact rfl) ?_ | refine finN (by simp only [go_sem, seval, Nat.reduceEqDiff, Nat.reduceLeDiff, reduceIte, reduceCtorEq, g1, g2, v1, ga, hla, k1, hx, hxt, hcs]; exact rfl) ?_); simp only [go_sem, seval, Nat.reduceEqDiff, Nat.reduceLeDiff, reduceIte, reduceCtorEq, g1, g2, v1, ga, hla, k1, hx, hxt, hcs]) | refine updL hM ?_ (by omega) | (with_reducible exact fun _ _ => rfl))
    all_goals (first | omega | (simp only [decide_eq_true_eq, decide_eq_false_iff_not] at *; omega) | (simp only [List.length_append, List.length_cons, List.length_nil] <;> omega) | exact one_bv _ | exact one_sv _ | skip)
    exact ⟨(i + 1, upd m n (some (bv (ps.getD i z32).1)), n + 1), ⟨by simp only; omega, by simp only [upd]; rw [if_neg (by omega)]; exact hmm, updL hM hkm (by omega), by simp only; omega⟩, by simp only; omega, (sbs (by simp (maxSteps := 2000000) only [go_sem, seval, Nat.reduceEqDiff, Nat.reduceLeDiff, reduceIte, reduceCtorEq, hl2]) rfl rfl)⟩
  · have g1 : ((i : Int) < (ps.length : Int)) = False := eq_false (by omega)
    have e : i = ps.length := by omega
    subst e
    rw [List.take_length] at hcl ⊢
    repeat' (first | (with_reducible first | refine pa ?_ | refine pb ?_ | refine pc ?_ | refine nxt_n ?_ | refine nxt_e ?_ | refine nxt_r ?_ | refine blk_n ?_ | refine blk_r ?_ | refine blk_hit ?_ | refine blk_miss (by rfl) ?_ | refine pd ?_ | refine pe ?_ | refine pf ?_ | refine pg ?_ | apply And.intro) | (refine hK _ ?_; first | clear hK K hn0 hcl hΘ Θ | clear hK K hΘ Θ) | (with_reducible first | refine cw1 ?_ | refine cw2 ?_ | exact cw3 | exact cw4) | ((with_reducible first | refine cw5 (fun gg => ?_) | refine cw6 (fun gg => ?_) | refine cw7 (fun gg => ?_)); try simp only [gg]) | refine cs1 hG rfl ?_ ?_ | refine cs2 hG rfl ?_ ?_ | ((first | refine kf (fun M n => Num_sp p a1 M n) rfl (by decide) cl0 hΘ hcl hn0 ?_ | refine kf (fun M n => Num_sp q a2 M n) rfl (by decide) cl0 hΘ hcl hn0 ?_ | refine kf (fun M n => draft_sp d hd (by omega) M n) rfl (by decide) cl0 hΘ hcl hn0 ?_ | refine kf (fun M n => hL M n) rfl (by decide) cl0 hΘ hcl hn0 ?_ | refine rga hG (by kernel_rfl) (fun Θ K hΘ hK => ?_) | refine rgb hG (by kernel_rfl) (fun Θ K hΘ hK => ?_) | refine rgc defCl hG (by kernel_rfl) cl0 (by rfl) (by kernel_rfl) (fun Θ K hΘ hcl hn0 hK => ?_) | refine rgd defCl hG (by kernel_rfl) cl0 (by rfl) (by kernel_rfl) (fun Θ K hΘ hcl hn0 hK => ?_)); simp (maxSteps := 2000000) only [go_sem, seval, Nat.reduceEqDiff, Nat.reduceLeDiff, reduceIte, reduceCtorEq, g1, hmm, htx]) | ((first | refine Post.splitN (fun gg => ?_) (fun gg => ?_) | refine PostB.splitN (fun gg => ?_) (fun gg => ?_) | refine Post.split (fun gg => ?_) (fun gg => ?_) | refine PostB.split (fun gg => ?_) (fun gg => ?_)) <;> simp (maxSteps := 2000000) only [go_sem, seval, Nat.reduceEqDiff, Nat.reduceLeDiff, reduceIte, reduceCtorEq, gg, g1, hmm, htx]) | ((first | refine finR (by simp only [go_sem, seval, Nat.reduceEqDiff, Nat.reduceLeDiff, reduceIte, reduceCtorEq, g1, hmm, htx]; exact rfl) ?_ | refine finN (by simp only [go_sem, seval, Nat.reduceEqDiff, Nat.reduceLeDiff, reduceIte, reduceCtorEq, g1, hmm, htx]; exact rfl) ?_); simp only [go_sem, seval, Nat.reduceEqDiff, Nat.reduceLeDiff, reduceIte, reduceCtorEq, g1, hmm, htx]) | refine updL hM ?_ (by omega) | (with_reducible exact fun _ _ => rfl))
    all_goals (first | omega | (simp only [decide_eq_true_eq, decide_eq_false_iff_not] at *; omega) | (simp only [List.length_append, List.length_cons, List.length_nil] <;> omega) | exact one_bv _ | exact one_sv _ | skip)
end Go.VL
