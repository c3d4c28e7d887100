/- Part TMail2 of the proof: made for this claim. -/
import Derived.Test.YtljfmgfokifooaaTMail
set_option linter.unusedVariables false
set_option linter.unusedSimpArgs false
set_option maxRecDepth 100000
set_option maxHeartbeats 8000000
open Go.RowKit
namespace Go.VL
open Go.Proofs
theorem IdxE_sp (f : FuncId) (p : Ent → Bool) (hf : ∀ e : Ent, e.ok → Rt f [.agg e.c] (.flat (.bool (p e)))) (l : List Ent) (hok : ∀ e ∈ l, e.ok) (hl : l.length ≤ 140737488355328) : Rt 50 [.sl false 73 l.length (Ent.lC l), .fn f []] (.flat (.int .i64 (idxE p l 0))) := by
  intro M mn
  refine fnL (C := kc 19 [] []) (rs := [.tmp 4]) envOk Try.func50 (by kernel_rfl) rfl rfl rfl rfl rfl rfl (Low.flat _) ?_
  intro E hG hM
  repeat' (first | (with_reducible first | refine pa ?_ | refine pb ?_ | refine pc ?_ | refine nxt_n ?_ | refine nxt_e ?_ | refine nxt_r ?_ | refine blk_n ?_ | refine blk_r ?_ | refine blk_hit ?_ | refine blk_miss (by rfl) ?_ | refine pd ?_ | refine pe ?_ | refine pf ?_ | refine pg ?_ | apply And.intro) | (refine hK _ ?_; clear hK K hΘ Θ) | (with_reducible first | refine cw1 ?_ | refine cw2 ?_ | exact cw3 | exact cw4) | ((with_reducible first | refine cw5 (fun gg => ?_) | refine cw6 (fun gg => ?_) | refine cw7 (fun gg => ?_)); try simp only [gg]) | refine cs1 hG rfl ?_ ?_ | refine cs2 hG rfl ?_ ?_ | ((first | refine rga hG (by kernel_rfl) (fun Θ K hΘ hK => ?_) | refine rgb hG (by kernel_rfl) (fun Θ K hΘ hK => ?_)); simp (maxSteps := 2000000) only [go_sem, seval, reduceCtorEq]) | ((first | refine Post.splitN (fun gg => ?_) (fun gg => ?_) | refine Post.split (fun gg => ?_) (fun gg => ?_)) <;> simp (maxSteps := 2000000) only [go_sem, seval, reduceCtorEq, gg]) | (refine finR (by simp only [go_sem, seval, reduceCtorEq]; exact rfl) ?_; simp only [go_sem, seval, reduceCtorEq]) | refine updL hM ?_ (by omega) | (with_reducible exact fun _ _ => rfl))
  all_goals (first | omega | (simp only [decide_eq_true_eq, decide_eq_false_iff_not] at *; omega) | (simp only [List.length_append, List.length_cons, List.length_nil] <;> omega) | exact one_bv _ | exact one_sv _ | skip)
  refine WC.loopA (fun i : Nat => ⟨[(8, .flat (.int .i64 i)), (7, .flat (.int .i64 l.length)), (1, .fn f []), (0, .sl false 73 l.length (Ent.lC l))], M, mn⟩) (fun i => l.length - i) (fun i => i ≤ l.length ∧ idxE p l 0 = idxE p (l.drop i) i) 0 ⟨Nat.zero_le _, by simp⟩ (sbs (by simp (maxSteps := 2000000) only [go_sem, seval, reduceCtorEq, List.append_eq]) rfl rfl) ?_
  rintro i ⟨hi, hx⟩
  by_cases h : i < l.length
  · have f1 : ((i : Int) < (l.length : Int)) = True := eq_true (by omega)
    have g1 : (i < l.length) = True := eq_true h
    have v1 := wi1 (n := i) (by omega)
    have hgt := Ent.l_get l ent0 i h
    have hll := Ent.l_len l
    have ht := Ent.tk (l.getD i ent0)
    have he : (l.getD i ent0).ok := hok _ (by rw [List.getD_eq_getElem?_getD, List.getElem?_eq_getElem h]; exact List.getElem_mem _)
    have g2 : (i * 73 + 73 ≤ l.length * 73) = True := eq_true (by omega)
    rw [idxE_drop p l ent0 i i h] at hx
    by_cases hp : p (l.getD i ent0) = true
    · rw [if_pos hp] at hx
      repeat' (first | (with_reducible first | refine pa ?_ | refine pb ?_ | refine pc ?_ | refine nxt_n ?_ | refine nxt_e ?_ | refine nxt_r ?_ | refine blk_n ?_ | refine blk_r ?_ | refine blk_hit ?_ | refine blk_miss (by rfl) ?_ | refine pd ?_ | refine pe ?_ | refine pf ?_ | refine pg ?_ | apply And.intro) | (refine hK _ ?_; clear hK K hΘ Θ) | (with_reducible first | refine cw1 ?_ | refine cw2 ?_ | exact cw3 | exact cw4) | ((with_reducible first | refine cw5 (fun gg => ?_) | refine cw6 (fun gg => ?_) | refine cw7 (fun gg => ?_)); try simp only [gg]) | refine cs1 hG rfl ?_ ?_ | refine cs2 hG rfl ?_ ?_ | ((first | refine kg (hf (l.getD i ent0) he _ _) rfl hΘ ?_ | refine rga hG (by kernel_rfl) (fun Θ K hΘ hK => ?_) | refine rgb hG (by kernel_rfl) (fun Θ K hΘ hK => ?_)); simp (maxSteps := 2000000) only [go_sem, seval, reduceCtorEq, f1, g1, v1, hgt, hll, ht, g2, hp]) | ((first | refine Post.splitN (fun gg => ?_) (fun gg => ?_) | refine Post.split (fun gg => ?_) (fun gg => ?_)) <;> simp (maxSteps := 2000000) only [go_sem, seval, reduceCtorEq, gg, f1, g1, v1, hgt, hll, ht, g2, hp]) | (refine finR (by simp only [go_sem, seval, reduceCtorEq, f1, g1, v1, hgt, hll, ht, g2, hp]; exact rfl) ?_; simp only [go_sem, seval, reduceCtorEq, f1, g1, v1, hgt, hll, ht, g2, hp]) | refine updL hM ?_ (by omega) | (with_reducible exact fun _ _ => rfl))
      all_goals (first | omega | (simp only [decide_eq_true_eq, decide_eq_false_iff_not] at *; omega) | (simp only [List.length_append, List.length_cons, List.length_nil] <;> omega) | exact one_bv _ | exact one_sv _ | skip)
      all_goals rw [hx]
    · have hp' : p (l.getD i ent0) = false := by simpa using hp
      rw [if_neg hp] at hx
      repeat' (first | (with_reducible first | refine pa ?_ | refine pb ?_ | refine pc ?_ | refine nxt_n ?_ | refine nxt_e ?_ | refine nxt_r ?_ | refine blk_n ?_ | refine blk_r ?_ | refine blk_hit ?_ | refine blk_miss (by rfl) ?_ | refine pd ?_ | refine pe ?_ | refine pf ?_ | refine pg ?_ | apply And.intro) | (refine hK _ ?_; clear hK K hΘ Θ) | (with_reducible first | refine cw1 ?_ | refine cw2 ?_ | exact cw3 | exact cw4) | ((with_reducible first | refine cw5 (fun gg => ?_) | refine cw6 (fun gg => ?_) | refine cw7 (fun gg => ?_)); try simp only [gg]) | refine cs1 hG rfl ?_ ?_ | refine cs2 hG rfl ?_ ?_ | ((first | refine kg (hf (l.getD i ent0) he _ _) rfl hΘ ?_ | refine rga hG (by kernel_rfl) (fun Θ K hΘ hK => ?_) | refine rgb hG (by kernel_rfl) (fun Θ K hΘ hK => ?_)); simp (maxSteps := 2000000) only [go_sem, seval, reduceCtorEq, f1, g1, v1, hgt, hll, ht, g2, hp']) | ((first | refine Post.splitN (fun gg => ?_) (fun gg => ?_) | refine Post.split (fun gg => ?_) (fun gg => ?_)) <;> simp (maxSteps := 2000000) only [go_sem, seval, reduceCtorEq, gg, f1, g1, v1, hgt, hll, ht, g2, hp']) | (refine finR (by simp only [go_sem, seval, reduceCtorEq, f1, g1, v1, hgt, hll, ht, g2, hp']; exact rfl) ?_; simp only [go_sem, seval, reduceCtorEq, f1, g1, v1, hgt, hll, ht, g2, hp']) | refine updL hM ?_ (by omega) | (with_reducible exact fun _ _ => rfl))
      all_goals (first | omega | (simp only [decide_eq_true_eq, decide_eq_false_iff_not] at *; omega) | (simp only [List.length_append, List.length_cons, List.length_nil] <;> omega) | exact one_bv _ | exact one_sv _ | skip)
      exact ⟨i + 1, ⟨by omega, by rw [hx]; rfl⟩, by omega, (sbs (by simp (maxSteps := 2000000) only [go_sem, seval, reduceCtorEq, List.append_eq]) rfl rfl)⟩
  · have f1 : ((i : Int) < (l.length : Int)) = False := eq_false (by omega)
    have e : i = l.length := by omega
    subst e
    have hx : idxE p l 0 = -1 := by rw [hx, List.drop_length]; rfl
    rw [hx]
    repeat' (first | (with_reducible first | refine pa ?_ | refine pb ?_ | refine pc ?_ | refine nxt_n ?_ | refine nxt_e ?_ | refine nxt_r ?_ | refine blk_n ?_ | refine blk_r ?_ | refine blk_hit ?_ | refine blk_miss (by rfl) ?_ | refine pd ?_ | refine pe ?_ | refine pf ?_ | refine pg ?_ | apply And.intro) | (refine hK _ ?_; clear hK K hΘ Θ) | (with_reducible first | refine cw1 ?_ | refine cw2 ?_ | exact cw3 | exact cw4) | ((with_reducible first | refine cw5 (fun gg => ?_) | refine cw6 (fun gg => ?_) | refine cw7 (fun gg => ?_)); try simp only [gg]) | refine cs1 hG rfl ?_ ?_ | refine cs2 hG rfl ?_ ?_ | ((first | refine rga hG (by kernel_rfl) (fun Θ K hΘ hK => ?_) | refine rgb hG (by kernel_rfl) (fun Θ K hΘ hK => ?_)); simp (maxSteps := 2000000) only [go_sem, seval, reduceCtorEq, f1]) | ((first | refine Post.splitN (fun gg => ?_) (fun gg => ?_) | refine Post.split (fun gg => ?_) (fun gg => ?_)) <;> simp (maxSteps := 2000000) only [go_sem, seval, reduceCtorEq, gg, f1]) | (refine finR (by simp only [go_sem, seval, reduceCtorEq, f1]; exact rfl) ?_; simp only [go_sem, seval, reduceCtorEq, f1]) | refine updL hM ?_ (by omega) | (with_reducible exact fun _ _ => rfl))
    all_goals (first | omega | (simp only [decide_eq_true_eq, decide_eq_false_iff_not] at *; omega) | (simp only [List.length_append, List.length_cons, List.length_nil] <;> omega) | exact one_bv _ | exact one_sv _ | skip)
theorem ContE_sp (f : FuncId) (p : Ent → Bool) (hf : ∀ e : Ent, e.ok → Rt f [.agg e.c] (.flat (.bool (p e)))) (l : List Ent) (hok : ∀ e ∈ l, e.ok) (hl : l.length ≤ 140737488355328) : Rt 23 [.sl false 73 l.length (Ent.lC l), .fn f []] (.flat (.bool (l.any p))) := by
  have e := idxE_any p l 0 (by omega)
  rw [← e]
  intro M mn
  refine fnL (C := kc 9 [] []) (rs := [.tmp 4]) envOk Try.func23 (by kernel_rfl) rfl rfl rfl rfl rfl rfl (Low.flat _) ?_
  intro E hG hM
  repeat' (first | (with_reducible first | refine pa ?_ | refine pb ?_ | refine pc ?_ | refine nxt_n ?_ | refine nxt_e ?_ | refine nxt_r ?_ | refine blk_n ?_ | refine blk_r ?_ | refine blk_hit ?_ | refine blk_miss (by rfl) ?_ | refine pd ?_ | refine pe ?_ | refine pf ?_ | refine pg ?_ | apply And.intro) | (refine hK _ ?_; clear hK K hΘ Θ) | (with_reducible first | refine cw1 ?_ | refine cw2 ?_ | exact cw3 | exact cw4) | ((with_reducible first | refine cw5 (fun gg => ?_) | refine cw6 (fun gg => ?_) | refine cw7 (fun gg => ?_)); try simp only [gg]) | refine cs1 hG rfl ?_ ?_ | refine cs2 hG rfl ?_ ?_ | ((first | refine kg (IdxE_sp f p hf l hok hl _ _) rfl hΘ ?_ | refine rga hG (by kernel_rfl) (fun Θ K hΘ hK => ?_) | refine rgb hG (by kernel_rfl) (fun Θ K hΘ hK => ?_)); simp (maxSteps := 2000000) only [go_sem, seval, reduceCtorEq]) | ((first | refine Post.splitN (fun gg => ?_) (fun gg => ?_) | refine Post.split (fun gg => ?_) (fun gg => ?_)) <;> simp (maxSteps := 2000000) only [go_sem, seval, reduceCtorEq, gg]) | (refine finR (by simp only [go_sem, seval, reduceCtorEq]; exact rfl) ?_; simp only [go_sem, seval, reduceCtorEq]) | refine updL hM ?_ (by omega) | (with_reducible exact fun _ _ => rfl))
  all_goals (first | omega | (simp only [decide_eq_true_eq, decide_eq_false_iff_not] at *; omega) | (simp only [List.length_append, List.length_cons, List.length_nil] <;> omega) | exact one_bv _ | exact one_sv _ | skip)
theorem MGood_sp (m : Mail) (hm : m.ok) : Rt 9 [.agg m.ml.c] (.flat (.bool m.good)) := by
  obtain ⟨_, _, _, _, _, _, _, _, ⟨_, l1⟩, ⟨k2, l2⟩, _⟩ := id hm
  have cA := ContA_sp 22 (fun a => !a.word) badW_sp m.auths (by omega)
  have cE := ContE_sp 24 (fun e => !e.good) badE_sp m.ents k2 (by omega)
  have e : m.good = (decide (m.kind ≥ 1) && decide (m.kind ≤ 7) && ndOk m.from_ && ndOk m.to && ndOk m.other && decide (m.seq ≥ 0) && decide (m.mask ≥ 0) && decide (m.mask < 32) && decide ((m.pay.length : Int) ≤ 2048) && m.auth.word
    && decide ((m.auths.length : Int) ≤ 512) && !(m.auths.any fun a => !a.word) && decide ((m.ents.length : Int) ≤ 4096) && !(m.ents.any fun e => !e.good) && decide ((m.proofs.length : Int) ≤ 4096)) := by
    unfold Mail.good
    rw [all_any, all_any]
  generalize m.auths.any (fun a => !a.word) = A1 at *
  generalize m.ents.any (fun e => !e.good) = A2 at *
  intro M mn
  refine fnL (C := kc 82 [] []) (rs := [.tmp 2]) envOk Try.func9 (by kernel_rfl) rfl rfl rfl rfl rfl rfl (Low.flat _) ?_
  intro E hG hM
  repeat' (first | (with_reducible first | refine pa ?_ | refine pb ?_ | refine pc ?_ | refine nxt_n ?_ | refine nxt_e ?_ | refine nxt_r ?_ | refine blk_n ?_ | refine blk_r ?_ | refine blk_hit ?_ | refine blk_miss (by rfl) ?_ | refine pd ?_ | refine pe ?_ | refine pf ?_ | refine pg ?_ | apply And.intro) | (refine hK _ ?_; clear hK K hΘ Θ) | (with_reducible first | refine cw1 ?_ | refine cw2 ?_ | exact cw3 | exact cw4) | ((with_reducible first | refine cw5 (fun gg => ?_) | refine cw6 (fun gg => ?_) | refine cw7 (fun gg => ?_)); try simp only [gg]) | refine cs1 hG rfl ?_ ?_ | refine cs2 hG rfl ?_ ?_ | ((first | refine kg (node_sp m.from_ _ _) rfl hΘ ?_ | refine kg (node_sp m.to _ _) rfl hΘ ?_ | refine kg (node_sp m.other _ _) rfl hΘ ?_ | refine kg (word_sp m.auth _ _) rfl hΘ ?_ | refine kg (cA _ _) rfl hΘ ?_ | refine kg (cE _ _) rfl hΘ ?_ | refine rga hG (by kernel_rfl) (fun Θ K hΘ hK => ?_) | refine rgb hG (by kernel_rfl) (fun Θ K hΘ hK => ?_)); simp (maxSteps := 2000000) only [go_sem, seval, reduceCtorEq, List.append_eq]) | ((first | refine Post.splitN (fun gg => ?_) (fun gg => ?_) | refine Post.split (fun gg => ?_) (fun gg => ?_)) <;> simp (maxSteps := 2000000) only [go_sem, seval, reduceCtorEq, List.append_eq, gg]) | (refine finR (by simp only [go_sem, seval, reduceCtorEq, List.append_eq]; exact rfl) ?_; simp only [go_sem, seval, reduceCtorEq, List.append_eq]) | refine updL hM ?_ (by omega) | (with_reducible exact fun _ _ => rfl))
  all_goals (first | omega | (simp only [decide_eq_true_eq, decide_eq_false_iff_not] at *; omega) | (simp only [List.length_append, List.length_cons, List.length_nil] <;> omega) | exact one_bv _ | exact one_sv _ | skip)
  all_goals (simp_all <;> (intros; (try omega)))
theorem AuText_sp (a : Au) (ha : a.ok) (hs : a.sig.length ≤ 1000000) : Rt 28 [.agg a.c] (.flat (.string (bs a.text))) := by
  have n1 : a.node < 9223372036854775808 := by have := ha.1.2; omega
  have n2 : a.seq < 9223372036854775808 := by have := ha.2.1.2; omega
  have t1 := Au.total_le ha hs
  have tb := take_bv32 a.hash
  have hL := List_sp a.parts (by omega) (by omega)
  simp only [Au.parts] at hL
  intro M mn
  refine fnL (C := kc 16 [] []) (rs := [.tmp 2]) envOk Try.func28 (by kernel_rfl) rfl rfl rfl rfl rfl rfl (Low.flat _) ?_
  intro E hG hM
  repeat' (first | (with_reducible first | refine pa ?_ | refine pb ?_ | refine pc ?_ | refine nxt_n ?_ | refine nxt_e ?_ | refine nxt_r ?_ | refine blk_n ?_ | refine blk_r ?_ | refine blk_hit ?_ | refine blk_miss (by rfl) ?_ | refine pd ?_ | refine pe ?_ | refine pf ?_ | refine pg ?_ | apply And.intro) | (refine hK _ ?_; first | clear hK K hn0 hcl hΘ Θ | clear hK K hΘ Θ) | (with_reducible first | refine cw1 ?_ | refine cw2 ?_ | exact cw3 | exact cw4) | ((with_reducible first | refine cw5 (fun gg => ?_) | refine cw6 (fun gg => ?_) | refine cw7 (fun gg => ?_)); try simp only [gg]) | refine cs1 hG rfl ?_ ?_ | refine cs2 hG rfl ?_ ?_ | ((first | refine kf (fun M n => Num_sp a.node n1 M n) rfl (by decide) cl0 hΘ hcl hn0 ?_ | refine kf (fun M n => Num_sp a.seq n2 M n) rfl (by decide) cl0 hΘ hcl hn0 ?_ | refine kf (fun M n => hL M n) rfl (by decide) cl0 hΘ hcl hn0 ?_ | refine rga hG (by kernel_rfl) (fun Θ K hΘ hK => ?_) | refine rgb hG (by kernel_rfl) (fun Θ K hΘ hK => ?_) | refine rgc defCl hG (by kernel_rfl) cl0 (by rfl) (by kernel_rfl) (fun Θ K hΘ hcl hn0 hK => ?_) | refine rgd defCl hG (by kernel_rfl) cl0 (by rfl) (by kernel_rfl) (fun Θ K hΘ hcl hn0 hK => ?_)); simp (maxSteps := 2000000) only [go_sem, seval, reduceCtorEq, tb]) | ((first | refine Post.splitN (fun gg => ?_) (fun gg => ?_) | refine PostB.splitN (fun gg => ?_) (fun gg => ?_) | refine Post.split (fun gg => ?_) (fun gg => ?_) | refine PostB.split (fun gg => ?_) (fun gg => ?_)) <;> simp (maxSteps := 2000000) only [go_sem, seval, reduceCtorEq, gg, tb]) | (refine finR (by simp only [go_sem, seval, reduceCtorEq, tb]; exact rfl) ?_; simp only [go_sem, seval, reduceCtorEq, tb]) | refine updL hM ?_ (by omega) | (with_reducible exact fun _ _ => rfl))
  all_goals (first | omega | (simp only [decide_eq_true_eq, decide_eq_false_iff_not] at *; omega) | (simp only [List.length_append, List.length_cons, List.length_nil] <;> omega) | exact one_bv _ | exact one_sv _ | skip)
  all_goals rfl
def cameE (m : Mail) : Ent := ⟨2, dr0, m.auth.node, m.auth.seq, m.prev, m.mask, m.pay, m.auth.sig⟩
end Go.VL
