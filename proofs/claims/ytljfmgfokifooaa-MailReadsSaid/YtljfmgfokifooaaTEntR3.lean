/- Part TEntR3 of the proof: made for this claim. -/
import Derived.Test.YtljfmgfokifooaaTEntR2
set_option linter.unusedVariables false
set_option linter.unusedSimpArgs false
set_option maxRecDepth 100000
set_option maxHeartbeats 8000000
open Go.RowKit
namespace Go.VL
open Go.Proofs
theorem R15ReadAll_sp (s : List UInt8) (hs : s.length ≤ 4611686018427387904) : Rt 46 [.flat (.string (bs s))] (.tup [.sl false 73 (rdAll s).1.length (Ent.lC (rdAll s).1), .flat (.bool (rdAll s).2)]) := by
  intro M mn
  refine fnLS (C := kc 37 [31] []) (rs := [.tmp 2, .tmp 3]) envOk Try.func46 (by kernel_rfl) rfl rfl rfl rfl rfl rfl (lowTup (lowC1 (lowSl (lC_flat _)) (lowC1 (Low.flat _) lowC0))) ?_
  intro E hG hM
  by_cases h0 : sE s = 0
  · have f0 : (sE s = 0) = True := eq_true h0
    have hcnt := split_cnt h0
    have hsl := (split_back h0).2
    have hS := RSplit_sp s hs
    rw [h0] at hS
    have hall : ∀ i, (∀ j, j < i → (rdE ((sR s).getD j [])).2 = true) → i = (sR s).length → rdAll s = ((sR s).map fun t => (rdE t).1, true) := fun i h hi => rdAll_if s ⟨h0, fun t ht => by
      obtain ⟨k, hk, rfl⟩ := List.getElem_of_mem ht
      have := h k (by omega)
      rwa [List.getD_eq_getElem?_getD, List.getElem?_eq_getElem hk] at this⟩
    have hle : ∀ i, i < (sR s).length → ((sR s).getD i []).length ≤ 4611686018427387904 := fun i hi => by
      rw [List.getD_eq_getElem?_getD, List.getElem?_eq_getElem hi]
      have := split_len h0 (List.getElem_mem hi)
      simp only [Option.getD_some]; omega
    generalize hL : sR s = L at *
    repeat' (first | (with_reducible first | refine pa ?_ | refine pb ?_ | refine pc ?_ | refine nxt_n ?_ | refine nxt_e ?_ | refine nxt_r ?_ | refine blk_n ?_ | refine blk_r ?_ | refine blk_hit ?_ | refine blk_miss (by rfl) ?_ | refine pd ?_ | refine pe ?_ | refine pf ?_ | refine pg ?_ | apply And.intro) | (refine hK _ ?_; clear hK K hΘ Θ) | (with_reducible first | refine cw1 ?_ | refine cw2 ?_ | exact cw3 | exact cw4) | ((with_reducible first | refine cw5 (fun gg => ?_) | refine cw6 (fun gg => ?_) | refine cw7 (fun gg => ?_)); try simp only [gg]) | refine cs1 hG rfl ?_ ?_ | refine cs2 hG rfl ?_ ?_ | ((first | refine kg (hS _ _) rfl hΘ ?_ | refine rga hG (by kernel_rfl) (fun Θ K hΘ hK => ?_) | refine rgb hG (by kernel_rfl) (fun Θ K hΘ hK => ?_)); simp (maxSteps := 2000000) only [go_sem, seval, reduceCtorEq, List.append_eq, f0]) | ((first | refine Post.splitN (fun gg => ?_) (fun gg => ?_) | refine Post.split (fun gg => ?_) (fun gg => ?_)) <;> simp (maxSteps := 2000000) only [go_sem, seval, reduceCtorEq, List.append_eq, gg, f0]) | (refine finR (by simp only [go_sem, seval, reduceCtorEq, List.append_eq, f0]; exact rfl) ?_; simp only [go_sem, seval, reduceCtorEq, List.append_eq, f0]) | refine updL hM ?_ (by omega) | (with_reducible exact fun _ _ => rfl))
    all_goals (first | omega | (simp only [decide_eq_true_eq, decide_eq_false_iff_not] at *; omega) | (simp only [List.length_append, List.length_cons, List.length_nil] <;> omega) | exact one_bv _ | exact one_sv _ | skip)
    refine WC.loopA (fun q : Nat × Mem × Nat => ⟨[(20, .flat (.int .i64 q.1)), (19, .flat (.int .i64 L.length)), (18, .sl false 1 L.length (sv L)), (6, .sl true 73 q.1 (Ent.lC ((L.take q.1).map fun t => (rdE t).1)))], q.2.1, q.2.2⟩) (fun q => L.length - q.1) (fun q => q.1 ≤ L.length ∧ (∀ b, M b ≠ none → q.2.1 b = M b) ∧ mn ≤ q.2.2 ∧ ∀ j, j < q.1 → (rdE (L.getD j [])).2 = true) (0, M, mn) ⟨by simp only; omega, fun _ _ => rfl, Nat.le_refl _, fun j h => by simp only at h; omega⟩ (sbs (by simp (maxSteps := 2000000) only [go_sem, seval, reduceCtorEq, List.append_eq, List.take_zero, List.map_nil, Ent.l_nil]) rfl rfl) ?_
    rintro ⟨i, m, n⟩ ⟨hi, hk, hn, hg⟩
    simp only at hi hk hn hg ⊢
    by_cases h : i < L.length
    · have f1 : ((i : Int) < (L.length : Int)) = True := eq_true (by omega)
      have g1 : (i < L.length) = True := eq_true h
      have v1 := wi1 (n := i) (by omega)
      by_cases hr : (rdE (L.getD i [])).2 = true
      · have hA := Ent.l_app ((L.take i).map fun t => (rdE t).1) (rdE (L.getD i [])).1
        rw [← tkmap (fun t => (rdE t).1) L i [] h] at hA
        have hll := Ent.l_len ((L.take i).map fun t => (rdE t).1)
        rw [List.length_map, List.length_take, Nat.min_eq_left (by omega)] at hll
        have ht := Ent.tk (rdE (L.getD i [])).1
        repeat' (first | (with_reducible first | refine pa ?_ | refine pb ?_ | refine pc ?_ | refine nxt_n ?_ | refine nxt_e ?_ | refine nxt_r ?_ | refine blk_n ?_ | refine blk_r ?_ | refine blk_hit ?_ | refine blk_miss (by rfl) ?_ | refine pd ?_ | refine pe ?_ | refine pf ?_ | refine pg ?_ | apply And.intro) | (refine hK _ ?_; clear hK K hΘ Θ) | (with_reducible first | refine cw1 ?_ | refine cw2 ?_ | exact cw3 | exact cw4) | ((with_reducible first | refine cw5 (fun gg => ?_) | refine cw6 (fun gg => ?_) | refine cw7 (fun gg => ?_)); try simp only [gg]) | refine cs1 hG rfl ?_ ?_ | refine cs2 hG rfl ?_ ?_ | ((first | refine kg (R15Read_sp (L.getD i []) (hle i h) _ _) rfl hΘ ?_ | refine rga hG (by kernel_rfl) (fun Θ K hΘ hK => ?_) | refine rgb hG (by kernel_rfl) (fun Θ K hΘ hK => ?_)); simp (maxSteps := 2000000) only [go_sem, seval, reduceCtorEq, List.append_eq, f1, g1, v1, hr, hA, hll, ht]) | ((first | refine Post.splitN (fun gg => ?_) (fun gg => ?_) | refine Post.split (fun gg => ?_) (fun gg => ?_)) <;> simp (maxSteps := 2000000) only [go_sem, seval, reduceCtorEq, List.append_eq, gg, f1, g1, v1, hr, hA, hll, ht]) | (refine finR (by simp only [go_sem, seval, reduceCtorEq, List.append_eq, f1, g1, v1, hr, hA, hll, ht]; exact rfl) ?_; simp only [go_sem, seval, reduceCtorEq, List.append_eq, f1, g1, v1, hr, hA, hll, ht]) | refine updL hM ?_ (by omega) | (with_reducible exact fun _ _ => rfl))
        all_goals (first | omega | (simp only [decide_eq_true_eq, decide_eq_false_iff_not] at *; omega) | (simp only [List.length_append, List.length_cons, List.length_nil] <;> omega) | exact one_bv _ | exact one_sv _ | skip)
        refine ⟨(i + 1, upd m n (some (rdE (L.getD i [])).1.c), n + 1), ⟨by simp only; omega, updL hM hk (by omega), by simp only; omega, ?_⟩, by simp only; omega, (sbs (by simp (maxSteps := 2000000) only [go_sem, seval, reduceCtorEq, List.append_eq]) rfl rfl)⟩
        intro j hj
        simp only at hj
        by_cases e : j = i
        · subst e; exact hr
        · exact hg j (by omega)
      · have hr' : (rdE (L.getD i [])).2 = false := by simpa using hr
        have hd : rdAll s = ([], false) := by
          unfold rdAll
          rw [if_neg]
          rintro ⟨_, q⟩
          rw [hL] at q
          exact hr (q _ (by rw [List.getD_eq_getElem?_getD, List.getElem?_eq_getElem h]; exact List.getElem_mem _))
        have e0 : Ent.lC [] = [] := rfl
        rw [hd]
        repeat' (first | (with_reducible first | refine pa ?_ | refine pb ?_ | refine pc ?_ | refine nxt_n ?_ | refine nxt_e ?_ | refine nxt_r ?_ | refine blk_n ?_ | refine blk_r ?_ | refine blk_hit ?_ | refine blk_miss (by rfl) ?_ | refine pd ?_ | refine pe ?_ | refine pf ?_ | refine pg ?_ | apply And.intro) | (refine hK _ ?_; clear hK K hΘ Θ) | (with_reducible first | refine cw1 ?_ | refine cw2 ?_ | exact cw3 | exact cw4) | ((with_reducible first | refine cw5 (fun gg => ?_) | refine cw6 (fun gg => ?_) | refine cw7 (fun gg => ?_)); try simp only [gg]) | refine cs1 hG rfl ?_ ?_ | refine cs2 hG rfl ?_ ?_ | ((first | refine kg (R15Read_sp (L.getD i []) (hle i h) _ _) rfl hΘ ?_ | refine rga hG (by kernel_rfl) (fun Θ K hΘ hK => ?_) | refine rgb hG (by kernel_rfl) (fun Θ K hΘ hK => ?_)); simp (maxSteps := 2000000) only [go_sem, seval, reduceCtorEq, List.append_eq, f1, g1, v1, hr', e0]) | ((first | refine Post.splitN (fun gg => ?_) (fun gg => ?_) | refine Post.split (fun gg => ?_) (fun gg => ?_)) <;> simp (maxSteps := 2000000) only [go_sem, seval, reduceCtorEq, List.append_eq, gg, f1, g1, v1, hr', e0]) | (refine finR (by simp only [go_sem, seval, reduceCtorEq, List.append_eq, f1, g1, v1, hr', e0]; exact rfl) ?_; simp only [go_sem, seval, reduceCtorEq, List.append_eq, f1, g1, v1, hr', e0]) | refine updL hM ?_ (by omega) | (with_reducible exact fun _ _ => rfl))
        all_goals (first | omega | (simp only [decide_eq_true_eq, decide_eq_false_iff_not] at *; omega) | (simp only [List.length_append, List.length_cons, List.length_nil] <;> omega) | exact one_bv _ | exact one_sv _ | skip)
    · have f1 : ((i : Int) < (L.length : Int)) = False := eq_false (by omega)
      have hd := hall i hg (by omega)
      have e1 : i = L.length := by omega
      subst e1
      have e2 : (L.map fun t => (rdE t).1).length = L.length := List.length_map _
      rw [hd, List.take_length]
      repeat' (first | (with_reducible first | refine pa ?_ | refine pb ?_ | refine pc ?_ | refine nxt_n ?_ | refine nxt_e ?_ | refine nxt_r ?_ | refine blk_n ?_ | refine blk_r ?_ | refine blk_hit ?_ | refine blk_miss (by rfl) ?_ | refine pd ?_ | refine pe ?_ | refine pf ?_ | refine pg ?_ | apply And.intro) | (refine hK _ ?_; clear hK K hΘ Θ) | (with_reducible first | refine cw1 ?_ | refine cw2 ?_ | exact cw3 | exact cw4) | ((with_reducible first | refine cw5 (fun gg => ?_) | refine cw6 (fun gg => ?_) | refine cw7 (fun gg => ?_)); try simp only [gg]) | refine cs1 hG rfl ?_ ?_ | refine cs2 hG rfl ?_ ?_ | ((first | refine rga hG (by kernel_rfl) (fun Θ K hΘ hK => ?_) | refine rgb hG (by kernel_rfl) (fun Θ K hΘ hK => ?_)); simp (maxSteps := 2000000) only [go_sem, seval, reduceCtorEq, List.append_eq, f1, e2]) | ((first | refine Post.splitN (fun gg => ?_) (fun gg => ?_) | refine Post.split (fun gg => ?_) (fun gg => ?_)) <;> simp (maxSteps := 2000000) only [go_sem, seval, reduceCtorEq, List.append_eq, gg, f1, e2]) | (refine finR (by simp only [go_sem, seval, reduceCtorEq, List.append_eq, f1, e2]; exact rfl) ?_; simp only [go_sem, seval, reduceCtorEq, List.append_eq, f1, e2]) | refine updL hM ?_ (by omega) | (with_reducible exact fun _ _ => rfl))
      all_goals (first | omega | (simp only [decide_eq_true_eq, decide_eq_false_iff_not] at *; omega) | (simp only [List.length_append, List.length_cons, List.length_nil] <;> omega) | exact one_bv _ | exact one_sv _ | skip)
  · have hd : rdAll s = ([], false) := if_neg (fun h => h0 h.1)
    have f0 : (sE s = 0) = False := eq_false h0
    have e0 : Ent.lC [] = [] := rfl
    rw [hd]
    repeat' (first | (with_reducible first | refine pa ?_ | refine pb ?_ | refine pc ?_ | refine nxt_n ?_ | refine nxt_e ?_ | refine nxt_r ?_ | refine blk_n ?_ | refine blk_r ?_ | refine blk_hit ?_ | refine blk_miss (by rfl) ?_ | refine pd ?_ | refine pe ?_ | refine pf ?_ | refine pg ?_ | apply And.intro) | (refine hK _ ?_; clear hK K hΘ Θ) | (with_reducible first | refine cw1 ?_ | refine cw2 ?_ | exact cw3 | exact cw4) | ((with_reducible first | refine cw5 (fun gg => ?_) | refine cw6 (fun gg => ?_) | refine cw7 (fun gg => ?_)); try simp only [gg]) | refine cs1 hG rfl ?_ ?_ | refine cs2 hG rfl ?_ ?_ | ((first | refine kg (RSplit_sp s hs _ _) rfl hΘ ?_ | refine rga hG (by kernel_rfl) (fun Θ K hΘ hK => ?_) | refine rgb hG (by kernel_rfl) (fun Θ K hΘ hK => ?_)); simp (maxSteps := 2000000) only [go_sem, seval, reduceCtorEq, List.append_eq, e0, f0]) | ((first | refine Post.splitN (fun gg => ?_) (fun gg => ?_) | refine Post.split (fun gg => ?_) (fun gg => ?_)) <;> simp (maxSteps := 2000000) only [go_sem, seval, reduceCtorEq, List.append_eq, gg, e0, f0]) | (refine finR (by simp only [go_sem, seval, reduceCtorEq, List.append_eq, e0, f0]; exact rfl) ?_; simp only [go_sem, seval, reduceCtorEq, List.append_eq, e0, f0]) | refine updL hM ?_ (by omega) | (with_reducible exact fun _ _ => rfl))
    all_goals (first | omega | (simp only [decide_eq_true_eq, decide_eq_false_iff_not] at *; omega) | (simp only [List.length_append, List.length_cons, List.length_nil] <;> omega) | exact one_bv _ | exact one_sv _ | skip)

end Go.VL
