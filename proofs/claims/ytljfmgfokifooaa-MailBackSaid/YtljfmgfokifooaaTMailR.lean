/- Part TMailR of the proof: made for this claim. -/
import Derived.Test.YtljfmgfokifooaaTMail3
import Derived.Test.YtljfmgfokifooaaTEntR
import Derived.Test.YtljfmgfokifooaaMailGreat
set_option linter.unusedVariables false
set_option linter.unusedSimpArgs false
set_option maxRecDepth 100000
set_option maxHeartbeats 8000000
open Go.RowKit
namespace Go.VL
open Go.Proofs
theorem great18_sp (m : Mail) (hm : m.ok) : Rt 8 [.agg m.ml.c] (.flat (.bool m.great)) := by
  obtain ⟨i1, i2, i3, i4, i5, i6, i7, i8, ⟨i9, l1⟩, ⟨j1, l2⟩, j2, l3⟩ := id hm
  have hge : m.great = (decide (m.n3 > 8192) || decide ((m.auths.length : Int) > 20) || decide ((m.ents.length : Int) > 20) || decide ((m.proofs.length : Int) > 20)) := rfl
  intro M mn
  refine fnL (C := kc 90 [] []) (rs := [.tmp 2]) envOk Try.func8 (by kernel_rfl) rfl rfl rfl rfl rfl rfl (Low.flat _) ?_
  intro E hG hM
  repeat' (first | (with_reducible first | refine pa ?_ | refine pb ?_ | refine pc ?_ | refine nxt_n ?_ | refine nxt_e ?_ | refine nxt_r ?_ | refine blk_n ?_ | refine blk_r ?_ | refine blk_hit ?_ | refine blk_miss (by rfl) ?_ | refine pd ?_ | refine pe ?_ | refine pf ?_ | refine pg ?_ | apply And.intro) | (refine hK _ ?_; clear hK K hΘ Θ) | (with_reducible first | refine cw1 ?_ | refine cw2 ?_ | exact cw3 | exact cw4) | ((with_reducible first | refine cw5 (fun gg => ?_) | refine cw6 (fun gg => ?_) | refine cw7 (fun gg => ?_)); try simp only [gg]) | refine cs1 hG rfl ?_ ?_ | refine cs2 hG rfl ?_ ?_ | ((first | refine rga hG (by kernel_rfl) (fun Θ K hΘ hK => ?_) | refine rgb hG (by kernel_rfl) (fun Θ K hΘ hK => ?_)); simp (maxSteps := 2000000) only [go_sem, seval, reduceCtorEq, List.append_eq]) | ((first | refine Post.splitN (fun gg => ?_) (fun gg => ?_) | refine Post.split (fun gg => ?_) (fun gg => ?_)) <;> simp (maxSteps := 2000000) only [go_sem, seval, reduceCtorEq, List.append_eq, gg]) | (refine finR (by simp only [go_sem, seval, reduceCtorEq, List.append_eq]; exact rfl) ?_; simp only [go_sem, seval, reduceCtorEq, List.append_eq]) | refine updL hM ?_ (by omega) | (with_reducible exact fun _ _ => rfl))
  all_goals (first | omega | (simp only [decide_eq_true_eq, decide_eq_false_iff_not] at *; omega) | (simp only [List.length_append, List.length_cons, List.length_nil] <;> omega) | exact one_bv _ | exact one_sv _ | skip)
  refine WC.loopA (fun q : Nat × Mem × Nat => ⟨[(21, .flat (.int .i64 q.1)), (20, .flat (.int .i64 m.auths.length)), (19, .sl false 35 m.auths.length (Au.lC m.auths)), (3, .flat (.int .i64 (wSum (IntKind.i64.wrap ((m.pay.length : Int) + (m.auth.sig.length : Int))) ((m.auths.take q.1).map fun a => (a.sig.length : Int))))), (1, .bp mn 0)], q.2.1, q.2.2⟩) (fun q => m.auths.length - q.1) (fun q => q.1 ≤ m.auths.length ∧ (∀ b, M b ≠ none → q.2.1 b = M b) ∧ mn + 1 ≤ q.2.2 ∧ q.2.1 mn = some m.ml.c) (0, upd M mn (some m.ml.c), mn + 1) ⟨by simp only; omega, updL hM (fun _ _ => rfl) (Nat.le_refl _), Nat.le_refl _, by simp [upd]⟩ (sbs (by simp (maxSteps := 2000000) only [go_sem, seval, reduceCtorEq, List.append_eq, List.take_zero, List.map_nil, wSum_nil]) rfl rfl) ?_
  rintro ⟨i, μ, n⟩ ⟨hi, hk, hn, hb⟩
  simp only at hi hk hn hb ⊢
  by_cases h : i < m.auths.length
  · have f1 : ((i : Int) < (m.auths.length : Int)) = True := eq_true (by omega)
    have g1 : (i < m.auths.length) = True := eq_true h
    have v1 := wi1 (n := i) (by omega)
    have hgt := Au.l_get m.auths au0 i h
    have hll := Au.l_len m.auths
    have ht1 := Au.tk (m.auths.getD i au0)
    have g2 : (i * 35 + 35 ≤ m.auths.length * 35) = True := eq_true (by omega)
    have hS := wSum_take (fun a : Au => (a.sig.length : Int)) (IntKind.i64.wrap ((m.pay.length : Int) + (m.auth.sig.length : Int))) m.auths i au0 h
    repeat' (first | (with_reducible first | refine pa ?_ | refine pb ?_ | refine pc ?_ | refine nxt_n ?_ | refine nxt_e ?_ | refine nxt_r ?_ | refine blk_n ?_ | refine blk_r ?_ | refine blk_hit ?_ | refine blk_miss (by rfl) ?_ | refine pd ?_ | refine pe ?_ | refine pf ?_ | refine pg ?_ | apply And.intro) | (refine hK _ ?_; clear hK K hΘ Θ) | (with_reducible first | refine cw1 ?_ | refine cw2 ?_ | exact cw3 | exact cw4) | ((with_reducible first | refine cw5 (fun gg => ?_) | refine cw6 (fun gg => ?_) | refine cw7 (fun gg => ?_)); try simp only [gg]) | refine cs1 hG rfl ?_ ?_ | refine cs2 hG rfl ?_ ?_ | ((first | refine rga hG (by kernel_rfl) (fun Θ K hΘ hK => ?_) | refine rgb hG (by kernel_rfl) (fun Θ K hΘ hK => ?_)); simp (maxSteps := 2000000) only [go_sem, seval, reduceCtorEq, List.append_eq, f1, g1, v1, hgt, hll, ht1, g2, hS]) | ((first | refine Post.splitN (fun gg => ?_) (fun gg => ?_) | refine Post.split (fun gg => ?_) (fun gg => ?_)) <;> simp (maxSteps := 2000000) only [go_sem, seval, reduceCtorEq, List.append_eq, gg, f1, g1, v1, hgt, hll, ht1, g2, hS]) | (refine finR (by simp only [go_sem, seval, reduceCtorEq, List.append_eq, f1, g1, v1, hgt, hll, ht1, g2, hS]; exact rfl) ?_; simp only [go_sem, seval, reduceCtorEq, List.append_eq, f1, g1, v1, hgt, hll, ht1, g2, hS]) | refine updL hM ?_ (by omega) | (with_reducible exact fun _ _ => rfl))
    all_goals (first | omega | (simp only [decide_eq_true_eq, decide_eq_false_iff_not] at *; omega) | (simp only [List.length_append, List.length_cons, List.length_nil] <;> omega) | exact one_bv _ | exact one_sv _ | skip)
    exact ⟨(i + 1, upd μ n (some (m.auths.getD i au0).c), n + 1), ⟨by simp only; omega, updL hM hk (by omega), by simp only; omega, updLm hb (by omega)⟩, by simp only; omega, (sbs (by simp (maxSteps := 2000000) only [go_sem, seval, reduceCtorEq, List.append_eq]) rfl rfl)⟩
  have f1 : ((i : Int) < (m.auths.length : Int)) = False := eq_false (by omega)
  have e1 : i = m.auths.length := by omega
  subst e1
  rw [List.take_length]
  have hn1 : wSum (IntKind.i64.wrap ((m.pay.length : Int) + (m.auth.sig.length : Int))) (m.auths.map fun a => (a.sig.length : Int)) = m.n1 := rfl
  rw [hn1]
  repeat' (first | (with_reducible first | refine pa ?_ | refine pb ?_ | refine pc ?_ | refine nxt_n ?_ | refine nxt_e ?_ | refine nxt_r ?_ | refine blk_n ?_ | refine blk_r ?_ | refine blk_hit ?_ | refine blk_miss (by rfl) ?_ | refine pd ?_ | refine pe ?_ | refine pf ?_ | refine pg ?_ | apply And.intro) | (refine hK _ ?_; clear hK K hΘ Θ) | (with_reducible first | refine cw1 ?_ | refine cw2 ?_ | exact cw3 | exact cw4) | ((with_reducible first | refine cw5 (fun gg => ?_) | refine cw6 (fun gg => ?_) | refine cw7 (fun gg => ?_)); try simp only [gg]) | refine cs1 hG rfl ?_ ?_ | refine cs2 hG rfl ?_ ?_ | ((first | refine rga hG (by kernel_rfl) (fun Θ K hΘ hK => ?_) | refine rgb hG (by kernel_rfl) (fun Θ K hΘ hK => ?_)); simp (maxSteps := 2000000) only [go_sem, seval, reduceCtorEq, List.append_eq, f1, hb]) | ((first | refine Post.splitN (fun gg => ?_) (fun gg => ?_) | refine Post.split (fun gg => ?_) (fun gg => ?_)) <;> simp (maxSteps := 2000000) only [go_sem, seval, reduceCtorEq, List.append_eq, gg, f1, hb]) | (refine finR (by simp only [go_sem, seval, reduceCtorEq, List.append_eq, f1, hb]; exact rfl) ?_; simp only [go_sem, seval, reduceCtorEq, List.append_eq, f1, hb]) | refine updL hM ?_ (by omega) | (with_reducible exact fun _ _ => rfl))
  all_goals (first | omega | (simp only [decide_eq_true_eq, decide_eq_false_iff_not] at *; omega) | (simp only [List.length_append, List.length_cons, List.length_nil] <;> omega) | exact one_bv _ | exact one_sv _ | skip)
  refine WC.loopA (fun q : Nat × Mem × Nat => ⟨[(34, .flat (.int .i64 q.1)), (33, .flat (.int .i64 m.ents.length)), (32, .sl false 73 m.ents.length (Ent.lC m.ents)), (3, .flat (.int .i64 (wSum m.n1 ((m.ents.take q.1).map fun e => (e.sz : Int))))), (1, .bp mn 0)], q.2.1, q.2.2⟩) (fun q => m.ents.length - q.1) (fun q => q.1 ≤ m.ents.length ∧ (∀ b, M b ≠ none → q.2.1 b = M b) ∧ mn + 1 ≤ q.2.2 ∧ q.2.1 mn = some m.ml.c) (0, μ, n) ⟨by simp only; omega, hk, hn, hb⟩ (sbs (by simp (maxSteps := 2000000) only [go_sem, seval, reduceCtorEq, List.append_eq, List.take_zero, List.map_nil, wSum_nil]) rfl rfl) ?_
  clear hb hn hk
  rintro ⟨i, μ, n⟩ ⟨hi, hk, hn, hb⟩
  simp only at hi hk hn hb ⊢
  by_cases h : i < m.ents.length
  · have f1 : ((i : Int) < (m.ents.length : Int)) = True := eq_true (by omega)
    have g1 : (i < m.ents.length) = True := eq_true h
    have v1 := wi1 (n := i) (by omega)
    have hmem : m.ents.getD i ent0 ∈ m.ents := by rw [List.getD_eq_getElem?_getD, List.getElem?_eq_getElem h]; exact List.getElem_mem _
    obtain ⟨_, ⟨_, k1, k2⟩, _, _, _, k3, k4⟩ := j1 _ hmem
    have hgt := Ent.l_get m.ents ent0 i h
    have hll := Ent.l_len m.ents
    have ht1 := Ent.tk (m.ents.getD i ent0)
    have g2 : (i * 73 + 73 ≤ m.ents.length * 73) = True := eq_true (by omega)
    have hS := wSum_take (fun e : Ent => (e.sz : Int)) m.n1 m.ents i ent0 h
    generalize m.ents.getD i ent0 = e at *
    have w1 : IntKind.i64.wrap ((e.pay.length : Int) + (e.sig.length : Int)) = ((e.pay.length + e.sig.length : Nat) : Int) := by rw [wi (by omega) (by omega)]; omega
    have w2 : IntKind.i64.wrap (((e.pay.length + e.sig.length : Nat) : Int) + (e.d.key.length : Int)) = ((e.pay.length + e.sig.length + e.d.key.length : Nat) : Int) := by rw [wi (by omega) (by omega)]; omega
    have w3 : IntKind.i64.wrap (((e.pay.length + e.sig.length + e.d.key.length : Nat) : Int) + (e.d.val.length : Int)) = (e.sz : Int) := by rw [wi (by omega) (by omega)]; unfold Ent.sz; omega
    repeat' (first | (with_reducible first | refine pa ?_ | refine pb ?_ | refine pc ?_ | refine nxt_n ?_ | refine nxt_e ?_ | refine nxt_r ?_ | refine blk_n ?_ | refine blk_r ?_ | refine blk_hit ?_ | refine blk_miss (by rfl) ?_ | refine pd ?_ | refine pe ?_ | refine pf ?_ | refine pg ?_ | apply And.intro) | (refine hK _ ?_; clear hK K hΘ Θ) | (with_reducible first | refine cw1 ?_ | refine cw2 ?_ | exact cw3 | exact cw4) | ((with_reducible first | refine cw5 (fun gg => ?_) | refine cw6 (fun gg => ?_) | refine cw7 (fun gg => ?_)); try simp only [gg]) | refine cs1 hG rfl ?_ ?_ | refine cs2 hG rfl ?_ ?_ | ((first | refine rga hG (by kernel_rfl) (fun Θ K hΘ hK => ?_) | refine rgb hG (by kernel_rfl) (fun Θ K hΘ hK => ?_)); simp (maxSteps := 2000000) only [go_sem, seval, reduceCtorEq, List.append_eq, f1, g1, v1, hgt, hll, ht1, g2, w1, w2, w3, hS]) | ((first | refine Post.splitN (fun gg => ?_) (fun gg => ?_) | refine Post.split (fun gg => ?_) (fun gg => ?_)) <;> simp (maxSteps := 2000000) only [go_sem, seval, reduceCtorEq, List.append_eq, gg, f1, g1, v1, hgt, hll, ht1, g2, w1, w2, w3, hS]) | (refine finR (by simp only [go_sem, seval, reduceCtorEq, List.append_eq, f1, g1, v1, hgt, hll, ht1, g2, w1, w2, w3, hS]; exact rfl) ?_; simp only [go_sem, seval, reduceCtorEq, List.append_eq, f1, g1, v1, hgt, hll, ht1, g2, w1, w2, w3, hS]) | refine updL hM ?_ (by omega) | (with_reducible exact fun _ _ => rfl))
    all_goals (first | omega | (simp only [decide_eq_true_eq, decide_eq_false_iff_not] at *; omega) | (simp only [List.length_append, List.length_cons, List.length_nil] <;> omega) | exact one_bv _ | exact one_sv _ | skip)
    exact ⟨(i + 1, upd μ n (some e.c), n + 1), ⟨by simp only; omega, updL hM hk (by omega), by simp only; omega, updLm hb (by omega)⟩, by simp only; omega, (sbs (by simp (maxSteps := 2000000) only [go_sem, seval, reduceCtorEq, List.append_eq]) rfl rfl)⟩
  have f1 : ((i : Int) < (m.ents.length : Int)) = False := eq_false (by omega)
  have e1 : i = m.ents.length := by omega
  subst e1
  rw [List.take_length]
  have hn2 : wSum m.n1 (m.ents.map fun e => (e.sz : Int)) = m.n2 := rfl
  rw [hn2]
  repeat' (first | (with_reducible first | refine pa ?_ | refine pb ?_ | refine pc ?_ | refine nxt_n ?_ | refine nxt_e ?_ | refine nxt_r ?_ | refine blk_n ?_ | refine blk_r ?_ | refine blk_hit ?_ | refine blk_miss (by rfl) ?_ | refine pd ?_ | refine pe ?_ | refine pf ?_ | refine pg ?_ | apply And.intro) | (refine hK _ ?_; clear hK K hΘ Θ) | (with_reducible first | refine cw1 ?_ | refine cw2 ?_ | exact cw3 | exact cw4) | ((with_reducible first | refine cw5 (fun gg => ?_) | refine cw6 (fun gg => ?_) | refine cw7 (fun gg => ?_)); try simp only [gg]) | refine cs1 hG rfl ?_ ?_ | refine cs2 hG rfl ?_ ?_ | ((first | refine rga hG (by kernel_rfl) (fun Θ K hΘ hK => ?_) | refine rgb hG (by kernel_rfl) (fun Θ K hΘ hK => ?_)); simp (maxSteps := 2000000) only [go_sem, seval, reduceCtorEq, List.append_eq, f1, hb]) | ((first | refine Post.splitN (fun gg => ?_) (fun gg => ?_) | refine Post.split (fun gg => ?_) (fun gg => ?_)) <;> simp (maxSteps := 2000000) only [go_sem, seval, reduceCtorEq, List.append_eq, gg, f1, hb]) | (refine finR (by simp only [go_sem, seval, reduceCtorEq, List.append_eq, f1, hb]; exact rfl) ?_; simp only [go_sem, seval, reduceCtorEq, List.append_eq, f1, hb]) | refine updL hM ?_ (by omega) | (with_reducible exact fun _ _ => rfl))
  all_goals (first | omega | (simp only [decide_eq_true_eq, decide_eq_false_iff_not] at *; omega) | (simp only [List.length_append, List.length_cons, List.length_nil] <;> omega) | exact one_bv _ | exact one_sv _ | skip)
  refine WC.loopA (fun i : Nat => ⟨[(61, .flat (.int .i64 i)), (60, .flat (.int .i64 m.proofs.length)), (59, .sl false 1 m.proofs.length (sv m.proofs)), (3, .flat (.int .i64 (wSum m.n2 ((m.proofs.take i).map fun s => (s.length : Int))))), (1, .bp mn 0)], μ, n⟩) (fun i => m.proofs.length - i) (fun i => i ≤ m.proofs.length) 0 (Nat.zero_le _) (sbs (by simp (maxSteps := 2000000) only [go_sem, seval, reduceCtorEq, List.append_eq, List.take_zero, List.map_nil, wSum_nil]) rfl rfl) ?_
  intro i hi
  by_cases h : i < m.proofs.length
  · have f1 : ((i : Int) < (m.proofs.length : Int)) = True := eq_true (by omega)
    have g1 : (i < m.proofs.length) = True := eq_true h
    have v1 := wi1 (n := i) (by omega)
    have hS := wSum_take (fun s : List UInt8 => (s.length : Int)) m.n2 m.proofs i [] h
    repeat' (first | (with_reducible first | refine pa ?_ | refine pb ?_ | refine pc ?_ | refine nxt_n ?_ | refine nxt_e ?_ | refine nxt_r ?_ | refine blk_n ?_ | refine blk_r ?_ | refine blk_hit ?_ | refine blk_miss (by rfl) ?_ | refine pd ?_ | refine pe ?_ | refine pf ?_ | refine pg ?_ | apply And.intro) | (refine hK _ ?_; clear hK K hΘ Θ) | (with_reducible first | refine cw1 ?_ | refine cw2 ?_ | exact cw3 | exact cw4) | ((with_reducible first | refine cw5 (fun gg => ?_) | refine cw6 (fun gg => ?_) | refine cw7 (fun gg => ?_)); try simp only [gg]) | refine cs1 hG rfl ?_ ?_ | refine cs2 hG rfl ?_ ?_ | ((first | refine rga hG (by kernel_rfl) (fun Θ K hΘ hK => ?_) | refine rgb hG (by kernel_rfl) (fun Θ K hΘ hK => ?_)); simp (maxSteps := 2000000) only [go_sem, seval, reduceCtorEq, List.append_eq, f1, g1, v1, hS]) | ((first | refine Post.splitN (fun gg => ?_) (fun gg => ?_) | refine Post.split (fun gg => ?_) (fun gg => ?_)) <;> simp (maxSteps := 2000000) only [go_sem, seval, reduceCtorEq, List.append_eq, gg, f1, g1, v1, hS]) | (refine finR (by simp only [go_sem, seval, reduceCtorEq, List.append_eq, f1, g1, v1, hS]; exact rfl) ?_; simp only [go_sem, seval, reduceCtorEq, List.append_eq, f1, g1, v1, hS]) | refine updL hM ?_ (by omega) | (with_reducible exact fun _ _ => rfl))
    all_goals (first | omega | (simp only [decide_eq_true_eq, decide_eq_false_iff_not] at *; omega) | (simp only [List.length_append, List.length_cons, List.length_nil] <;> omega) | exact one_bv _ | exact one_sv _ | skip)
    exact ⟨i + 1, by omega, by omega, (sbs (by simp (maxSteps := 2000000) only [go_sem, seval, reduceCtorEq, List.append_eq]) rfl rfl)⟩
  have f1 : ((i : Int) < (m.proofs.length : Int)) = False := eq_false (by omega)
  have e1 : i = m.proofs.length := by omega
  subst e1
  rw [List.take_length]
  have hn3 : wSum m.n2 (m.proofs.map fun s => (s.length : Int)) = m.n3 := rfl
  rw [hn3]
  clear hn1 hn2 hn3
  generalize m.n3 = N at *
  repeat' (first | (with_reducible first | refine pa ?_ | refine pb ?_ | refine pc ?_ | refine nxt_n ?_ | refine nxt_e ?_ | refine nxt_r ?_ | refine blk_n ?_ | refine blk_r ?_ | refine blk_hit ?_ | refine blk_miss (by rfl) ?_ | refine pd ?_ | refine pe ?_ | refine pf ?_ | refine pg ?_ | apply And.intro) | (refine hK _ ?_; clear hK K hΘ Θ) | (with_reducible first | refine cw1 ?_ | refine cw2 ?_ | exact cw3 | exact cw4) | ((with_reducible first | refine cw5 (fun gg => ?_) | refine cw6 (fun gg => ?_) | refine cw7 (fun gg => ?_)); try simp only [gg]) | refine cs1 hG rfl ?_ ?_ | refine cs2 hG rfl ?_ ?_ | ((first | refine rga hG (by kernel_rfl) (fun Θ K hΘ hK => ?_) | refine rgb hG (by kernel_rfl) (fun Θ K hΘ hK => ?_)); simp (maxSteps := 2000000) only [go_sem, seval, reduceCtorEq, List.append_eq, f1, hb]) | ((first | refine Post.splitN (fun gg => ?_) (fun gg => ?_) | refine Post.split (fun gg => ?_) (fun gg => ?_)) <;> simp (maxSteps := 2000000) only [go_sem, seval, reduceCtorEq, List.append_eq, gg, f1, hb]) | (refine finR (by simp only [go_sem, seval, reduceCtorEq, List.append_eq, f1, hb]; exact rfl) ?_; simp only [go_sem, seval, reduceCtorEq, List.append_eq, f1, hb]) | refine updL hM ?_ (by omega) | (with_reducible exact fun _ _ => rfl))
  all_goals (first | omega | (simp only [decide_eq_true_eq, decide_eq_false_iff_not] at *; omega) | (simp only [List.length_append, List.length_cons, List.length_nil] <;> omega) | exact one_bv _ | exact one_sv _ | skip)
  all_goals (simp_all <;> (intros; omega))
end Go.VL
