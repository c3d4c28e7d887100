/- Part TEnt of the proof: made for this claim. -/
import Derived.Test.YtljfmgfokifooaaTOpR
set_option linter.unusedVariables false
set_option linter.unusedSimpArgs false
set_option maxRecDepth 100000
set_option maxHeartbeats 8000000
open Go.RowKit
namespace Go.VL
open Go.Proofs
theorem EGood_sp (e : Ent) (he : e.ok) : Rt 25 [.agg e.c] (.flat (.bool e.good)) := by
  have hd := he.2.1
  obtain ⟨i1, i2, i3, i4, i5, i6, i7⟩ := id he
  have hin : ∀ n : Int, 0 ≤ n → n ≤ 3 → inR n := fun n _ _ => ⟨by omega, by omega⟩
  have okD : (entD e.d).ok := ⟨hin 1 (by omega) (by omega), hd, hin 0 (by omega) (by omega), hin 0 (by omega) (by omega), hin 0 (by omega) (by omega), by simp [entD, ent0], by simp [entD, ent0]⟩
  have okO : (entO e.mask e.pay).ok := ⟨hin 3 (by omega) (by omega), dr0_ok, hin 0 (by omega) (by omega), hin 0 (by omega) (by omega), i5, i6, by simp [entO, ent0]⟩
  have f0 := Dr.fit dr0 dr0_ok
  have f1 := Ent.fit e he
  have f2 := Ent.fit _ okD
  have f3 := Ent.fit _ okO
  have f4 := Dr.fit _ hd
  have hD : ({ kind := 1, d := e.d, from_ := ent0.from_, seq := ent0.seq, prev := ent0.prev, mask := ent0.mask, pay := ent0.pay, sig := ent0.sig } : Ent) = entD e.d := rfl
  have hO : ({ kind := 3, d := ent0.d, from_ := ent0.from_, seq := ent0.seq, prev := ent0.prev, mask := e.mask, pay := e.pay, sig := ent0.sig } : Ent) = entO e.mask e.pay := rfl
  intro M mn
  refine fnL (C := kc 74 [] []) (rs := [.tmp 2]) envOk Try.func25 (by kernel_rfl) rfl rfl rfl rfl rfl rfl (Low.flat _) ?_
  intro E hG hM
  repeat' (first | (with_reducible first | refine pa ?_ | refine pb ?_ | refine pc ?_ | refine nxt_n ?_ | refine nxt_e ?_ | refine nxt_r ?_ | refine blk_n ?_ | refine blk_r ?_ | refine blk_hit ?_ | refine blk_miss (by rfl) ?_ | refine pd ?_ | refine pe ?_ | refine pf ?_ | refine pg ?_ | apply And.intro) | (refine hK _ ?_; clear hK K hΘ Θ) | (with_reducible first | refine cw1 ?_ | refine cw2 ?_ | exact cw3 | exact cw4) | ((with_reducible first | refine cw5 (fun gg => ?_) | refine cw6 (fun gg => ?_) | refine cw7 (fun gg => ?_)); try simp only [gg]) | refine cs1 hG rfl ?_ ?_ | refine cs2 hG rfl ?_ ?_ | ((first | refine kg (GoodDraft_sp e.d hd _ _) rfl hΘ ?_ | refine rga hG (by kernel_rfl) (fun Θ K hΘ hK => ?_) | refine rgb hG (by kernel_rfl) (fun Θ K hΘ hK => ?_)); simp (maxSteps := 2000000) only [go_sem, seval, reduceCtorEq, List.append_eq, hD, hO]) | ((first | refine Post.splitN (fun gg => ?_) (fun gg => ?_) | refine Post.split (fun gg => ?_) (fun gg => ?_)) <;> simp (maxSteps := 2000000) only [go_sem, seval, reduceCtorEq, List.append_eq, gg, hD, hO]) | (refine finR (by simp only [go_sem, seval, reduceCtorEq, List.append_eq, hD, hO]; exact rfl) ?_; simp only [go_sem, seval, reduceCtorEq, List.append_eq, hD, hO]) | refine updL hM ?_ (by omega) | (with_reducible exact fun _ _ => rfl))
  all_goals (first | omega | (simp only [decide_eq_true_eq, decide_eq_false_iff_not] at *; omega) | (simp only [List.length_append, List.length_cons, List.length_nil] <;> omega) | exact one_bv _ | exact one_sv _ | skip)
  any_goals (first | exact f0 | exact f1 | exact f2 | exact f3 | exact f4)
  all_goals clear f0 f1 f2 f3 f4 hD hO okD okO hin
  all_goals
    have g1 := @Ent.good1 e
    have g2 := @Ent.good2 e
    have g3 := @Ent.good3 e
    have g0 := @Ent.good0 e
    have go := Ent.out_mask e
  all_goals first | (simp_all; done) | (simp_all [Ent.out]; done) | (simp_all [Ent.out] <;> (intros; omega))
end Go.VL
