/- Part TRdBO of the proof: made for this claim. -/
import Derived.Test.YtnajgcmdkmlimaaTRdO
set_option linter.unusedVariables false
set_option linter.unusedSimpArgs false
set_option maxRecDepth 100000
set_option maxHeartbeats 8000000
open Go.RowKit
namespace Go.VL
open Go.Proofs
/-! A payload is read. -/
theorem lowOps {own : Bool} {n : Nat} (l : List Opn) : Low (.sl own 38 n (Opn.lC l)) := by
  refine Low.sl fun c hc => ?_
  simp only [Opn.lC, List.mem_flatten, List.mem_map] at hc
  obtain ⟨_, ⟨o, _, rfl⟩, hc⟩ := hc
  simp only [Opn.oc, OpR.c, List.mem_append, List.mem_singleton] at hc
  rcases hc with hc | hc | hc | hc
  · exact (Dr.flat o.d).low c hc
  · rw [hc]; exact Low.flat _
  · rw [hc]; exact Low.flat _
  · rw [hc]; exact lowSl (idsC_flat _)
theorem tkmapG {α β : Type} (f : α → β) (l : List α) (i : Nat) (d : α) (h : i < l.length) : (l.take (i + 1)).map f = (l.take i).map f ++ [f (l.getD i d)] := by rw [take_snoc l i d h]; simp
theorem rdC_yes {s : List UInt8} (h : (rdOp s).2 = 0) : rdC s = ⟨(rdOp s).1.d, (rdOp s).1.a, (rdOp s).1.dep, .sl false 32 (rdOp s).1.ps.length (idsC (rdOp s).1.ps)⟩ := if_pos h
theorem rdBat_no {s : List UInt8} (h : ¬ (sE s = 0 ∧ (sR s).length ≤ 8 ∧ ∀ t ∈ sR s, (rdOp t).2 = 0)) : rdBat s = ([], 4) := if_neg h
theorem l_app2 (l : List Opn) (x : Opn) : Opn.lC l ++ OpR.c ⟨x.d, x.a, x.dep, .sl false 32 x.ps.length (idsC x.ps)⟩ = Opn.lC (l ++ [x]) := Opn.l_app l x
theorem op_one (d : Dr) (p q : Int) (n : Nat) (cs : List V) : (∀ z ∈ OpR.c ⟨d, p, q, .sl false 32 n cs⟩, oneB z = true) = True := eq_true fun z hz => (Eq.mpr (OpR.own2 ⟨d, p, q, .sl false 32 n cs⟩) ⟨rfl, rfl⟩ z hz).2
theorem ReadBatch_sp (s : List UInt8) : Rt 36 [.flat (.string (bs s))] (.tup [.sl false 38 (rdBat s).1.length (Opn.lC (rdBat s).1), .flat (.int .i64 (rdBat s).2)]) := by
  intro M mn
  refine fnLS (C := kc 43 [37] []) (rs := [.tmp 2, .tmp 3]) envOk Try.func36 (by kernel_rfl) rfl rfl rfl rfl rfl rfl (lowTup (lowC1 (lowOps _) (lowC1 (Low.flat _) lowC0))) ?_
  intro E hG hM
  have e0 : Opn.lC [] = [] := rfl
  by_cases h0 : sE s = 0
  case neg =>
    have f0 : (sE s = 0) = False := eq_false h0
    rw [rdBat_no fun q => h0 q.1]
    repeat' (first | (with_reducible first | refine pa ?_ | refine pb ?_ | refine pc ?_ | refine nxt_n ?_ | refine nxt_e ?_ | refine nxt_r ?_ | refine blk_n ?_ | refine blk_r ?_ | refine blk_hit ?_ | refine blk_miss (by rfl) ?_ | refine pd ?_ | refine pe ?_ | refine pf ?_ | refine pg ?_ | apply And.intro) | (refine hK _ ?_; first | clear hK K hn0 hcl hΘ Θ | clear hK K hΘ Θ) | (with_reducible first | refine cw1 ?_ | refine cw2 ?_ | exact cw3 | exact cw4) | ((with_reducible first | refine cw5 (fun gg => ?_) | refine cw6 (fun gg => ?_) | refine cw7 (fun gg => ?_)); try simp only [gg]) | refine cs1 hG rfl ?_ ?_ | refine cs2 hG rfl ?_ ?_ | ((first | refine kg (Split_sp s _ _) rfl hΘ ?_ | refine rga hG (by kernel_rfl) (fun Θ K hΘ hK => ?_) | refine rgb hG (by kernel_rfl) (fun Θ K hΘ hK => ?_) | refine rgc defCl hG (by kernel_rfl) cl0 (by rfl) (by kernel_rfl) (fun Θ K hΘ hcl hn0 hK => ?_) | refine rgd defCl hG (by kernel_rfl) cl0 (by rfl) (by kernel_rfl) (fun Θ K hΘ hcl hn0 hK => ?_)); simp (maxSteps := 2000000) only [go_sem, seval, Nat.reduceEqDiff, Nat.reduceLeDiff, reduceIte, reduceCtorEq, f0, e0]) | ((first | refine Post.splitN (fun gg => ?_) (fun gg => ?_) | refine PostB.splitN (fun gg => ?_) (fun gg => ?_) | refine Post.split (fun gg => ?_) (fun gg => ?_) | refine PostB.split (fun gg => ?_) (fun gg => ?_)) <;> simp (maxSteps := 2000000) only [go_sem, seval, Nat.reduceEqDiff, Nat.reduceLeDiff, reduceIte, reduceCtorEq, gg, f0, e0]) | ((first | refine finR (by simp only [go_sem, seval, Nat.reduceEqDiff, Nat.reduceLeDiff, reduceIte, reduceCtorEq, f0, e0]; exact rfl) ?_ | refine finN (by simp only [go_sem, seval, Nat.reduceEqDiff, Nat.reduceLeDiff, reduceIte, reduceCtorEq, f0, e0]; exact rfl) ?_); simp only [go_sem, seval, Nat.reduceEqDiff, Nat.reduceLeDiff, reduceIte, reduceCtorEq, f0, e0]) | refine updL hM ?_ (by omega) | (with_reducible exact fun _ _ => rfl))
    all_goals (first | omega | (simp only [decide_eq_true_eq, decide_eq_false_iff_not] at *; omega) | (simp only [List.length_append, List.length_cons, List.length_nil] <;> omega) | exact one_bv _ | exact one_sv _ | skip)
  have f0 : (sE s = 0) = True := eq_true h0
  have hS := Split_sp s
  have hcnt := split_cnt h0
  have hsl := (split_back h0).2
  by_cases h8 : (sR s).length ≤ 8
  case neg =>
    have f8 : (((sR s).length : Int) > 8) = True := eq_true (by omega)
    rw [rdBat_no fun q => h8 q.2.1]
    repeat' (first | (with_reducible first | refine pa ?_ | refine pb ?_ | refine pc ?_ | refine nxt_n ?_ | refine nxt_e ?_ | refine nxt_r ?_ | refine blk_n ?_ | refine blk_r ?_ | refine blk_hit ?_ | refine blk_miss (by rfl) ?_ | refine pd ?_ | refine pe ?_ | refine pf ?_ | refine pg ?_ | apply And.intro) | (refine hK _ ?_; first | clear hK K hn0 hcl hΘ Θ | clear hK K hΘ Θ) | (with_reducible first | refine cw1 ?_ | refine cw2 ?_ | exact cw3 | exact cw4) | ((with_reducible first | refine cw5 (fun gg => ?_) | refine cw6 (fun gg => ?_) | refine cw7 (fun gg => ?_)); try simp only [gg]) | refine cs1 hG rfl ?_ ?_ | refine cs2 hG rfl ?_ ?_ | ((first | refine kg (hS _ _) rfl hΘ ?_ | refine rga hG (by kernel_rfl) (fun Θ K hΘ hK => ?_) | refine rgb hG (by kernel_rfl) (fun Θ K hΘ hK => ?_) | refine rgc defCl hG (by kernel_rfl) cl0 (by rfl) (by kernel_rfl) (fun Θ K hΘ hcl hn0 hK => ?_) | refine rgd defCl hG (by kernel_rfl) cl0 (by rfl) (by kernel_rfl) (fun Θ K hΘ hcl hn0 hK => ?_)); simp (maxSteps := 2000000) only [go_sem, seval, Nat.reduceEqDiff, Nat.reduceLeDiff, reduceIte, reduceCtorEq, f0, f8, e0]) | ((first | refine Post.splitN (fun gg => ?_) (fun gg => ?_) | refine PostB.splitN (fun gg => ?_) (fun gg => ?_) | refine Post.split (fun gg => ?_) (fun gg => ?_) | refine PostB.split (fun gg => ?_) (fun gg => ?_)) <;> simp (maxSteps := 2000000) only [go_sem, seval, Nat.reduceEqDiff, Nat.reduceLeDiff, reduceIte, reduceCtorEq, gg, f0, f8, e0]) | ((first | refine finR (by simp only [go_sem, seval, Nat.reduceEqDiff, Nat.reduceLeDiff, reduceIte, reduceCtorEq, f0, f8, e0]; exact rfl) ?_ | refine finN (by simp only [go_sem, seval, Nat.reduceEqDiff, Nat.reduceLeDiff, reduceIte, reduceCtorEq, f0, f8, e0]; exact rfl) ?_); simp only [go_sem, seval, Nat.reduceEqDiff, Nat.reduceLeDiff, reduceIte, reduceCtorEq, f0, f8, e0]) | refine updL hM ?_ (by omega) | (with_reducible exact fun _ _ => rfl))
    all_goals (first | omega | (simp only [decide_eq_true_eq, decide_eq_false_iff_not] at *; omega) | (simp only [List.length_append, List.length_cons, List.length_nil] <;> omega) | exact one_bv _ | exact one_sv _ | skip)
  have f8 : (((sR s).length : Int) > 8) = False := eq_false (by omega)
  have hall : ∀ i, (∀ j, j < i → (rdOp ((sR s).getD j [])).2 = 0) → i = (sR s).length → rdBat s = ((sR s).map fun t => (rdOp t).1, 0) := fun i h hi => if_pos ⟨h0, h8, fun t ht => by
    obtain ⟨k, hk, rfl⟩ := List.getElem_of_mem ht
    have := h k (by omega)
    rwa [List.getD_eq_getElem?_getD, List.getElem?_eq_getElem hk] at this⟩
  generalize hL : sR s = L at *
  repeat' (first | (with_reducible first | refine pa ?_ | refine pb ?_ | refine pc ?_ | refine nxt_n ?_ | refine nxt_e ?_ | refine nxt_r ?_ | refine blk_n ?_ | refine blk_r ?_ | refine blk_hit ?_ | refine blk_miss (by rfl) ?_ | refine pd ?_ | refine pe ?_ | refine pf ?_ | refine pg ?_ | apply And.intro) | (refine hK _ ?_; first | clear hK K hn0 hcl hΘ Θ | clear hK K hΘ Θ) | (with_reducible first | refine cw1 ?_ | refine cw2 ?_ | exact cw3 | exact cw4) | ((with_reducible first | refine cw5 (fun gg => ?_) | refine cw6 (fun gg => ?_) | refine cw7 (fun gg => ?_)); try simp only [gg]) | refine cs1 hG rfl ?_ ?_ | refine cs2 hG rfl ?_ ?_ | ((first | refine kg (hS _ _) rfl hΘ ?_ | refine rga hG (by kernel_rfl) (fun Θ K hΘ hK => ?_) | refine rgb hG (by kernel_rfl) (fun Θ K hΘ hK => ?_) | refine rgc defCl hG (by kernel_rfl) cl0 (by rfl) (by kernel_rfl) (fun Θ K hΘ hcl hn0 hK => ?_) | refine rgd defCl hG (by kernel_rfl) cl0 (by rfl) (by kernel_rfl) (fun Θ K hΘ hcl hn0 hK => ?_)); simp (maxSteps := 2000000) only [go_sem, seval, Nat.reduceEqDiff, Nat.reduceLeDiff, reduceIte, reduceCtorEq, f0, f8]) | ((first | refine Post.splitN (fun gg => ?_) (fun gg => ?_) | refine PostB.splitN (fun gg => ?_) (fun gg => ?_) | refine Post.split (fun gg => ?_) (fun gg => ?_) | refine PostB.split (fun gg => ?_) (fun gg => ?_)) <;> simp (maxSteps := 2000000) only [go_sem, seval, Nat.reduceEqDiff, Nat.reduceLeDiff, reduceIte, reduceCtorEq, gg, f0, f8]) | ((first | refine finR (by simp only [go_sem, seval, Nat.reduceEqDiff, Nat.reduceLeDiff, reduceIte, reduceCtorEq, f0, f8]; exact rfl) ?_ | refine finN (by simp only [go_sem, seval, Nat.reduceEqDiff, Nat.reduceLeDiff, reduceIte, reduceCtorEq, f0, f8]; exact rfl) ?_); simp only [go_sem, seval, Nat.reduceEqDiff, Nat.reduceLeDiff, reduceIte, reduceCtorEq, f0, f8]) | refine updL hM ?_ (by omega) | (with_reducible exact fun _ _ => rfl))
  all_goals (first | omega | (simp only [decide_eq_true_eq, decide_eq_false_iff_not] at *; omega) | (simp only [List.length_append, List.length_cons, List.length_nil] <;> omega) | exact one_bv _ | exact one_sv _ | skip)
  refine WC.loopA (fun q : Nat × Mem × Nat => ⟨[(25, .flat (.int .i64 q.1)), (24, .flat (.int .i64 L.length)), (23, .sl false 1 L.length (sv L)), (6, .sl true 38 q.1 (Opn.lC ((L.take q.1).map fun t => (rdOp t).1)))], q.2.1, q.2.2⟩) (fun q => L.length - q.1) (fun q => q.1 ≤ L.length ∧ (∀ b, M b ≠ none → q.2.1 b = M b) ∧ mn ≤ q.2.2 ∧ ∀ j, j < q.1 → (rdOp (L.getD j [])).2 = 0) (0, M, mn) ⟨by simp only; omega, fun _ _ => rfl, Nat.le_refl _, fun j h => by simp only at h; omega⟩ (sbs (by simp (maxSteps := 2000000) only [go_sem, seval, Nat.reduceEqDiff, Nat.reduceLeDiff, reduceIte, reduceCtorEq, List.take_zero, List.map_nil, Opn.l_nil]) rfl rfl) ?_
  rintro ⟨i, m, n⟩ ⟨hi, hk, hn, hg⟩
  simp only at hi hk hn hg ⊢
  by_cases h : i < L.length
  · have f1 : ((i : Int) < (L.length : Int)) = True := eq_true (by omega)
    have g1 : (i < L.length) = True := eq_true h
    have v1 := wi1 (n := i) (by omega)
    by_cases hr : (rdOp (L.getD i [])).2 = 0
    · have hA := l_app2 ((L.take i).map fun t => (rdOp t).1) (rdOp (L.getD i [])).1
      rw [← tkmapG (fun t => (rdOp t).1) L i [] h] at hA
      have hll := Opn.l_len ((L.take i).map fun t => (rdOp t).1)
      rw [List.length_map, List.length_take, Nat.min_eq_left (by omega)] at hll
      have hR := Read_sp (L.getD i [])
      rw [rdC_yes hr, hr] at hR
      have hz := opz (rdOp (L.getD i [])).1.d (rdOp (L.getD i [])).1.a (rdOp (L.getD i [])).1.dep (rdOp (L.getD i [])).1.ps
      repeat' (first | (with_reducible first | refine pa ?_ | refine pb ?_ | refine pc ?_ | refine nxt_n ?_ | refine nxt_e ?_ | refine nxt_r ?_ | refine blk_n ?_ | refine blk_r ?_ | refine blk_hit ?_ | refine blk_miss (by rfl) ?_ | refine pd ?_ | refine pe ?_ | refine pf ?_ | refine pg ?_ | apply And.intro) | (refine hK _ ?_; first | clear hK K hn0 hcl hΘ Θ | clear hK K hΘ Θ) | (with_reducible first | refine cw1 ?_ | refine cw2 ?_ | exact cw3 | exact cw4) | ((with_reducible first | refine cw5 (fun gg => ?_) | refine cw6 (fun gg => ?_) | refine cw7 (fun gg => ?_)); try simp only [gg]) | refine cs1 hG rfl ?_ ?_ | refine cs2 hG rfl ?_ ?_ | ((first | refine kg (hR _ _) rfl hΘ ?_ | refine rga hG (by kernel_rfl) (fun Θ K hΘ hK => ?_) | refine rgb hG (by kernel_rfl) (fun Θ K hΘ hK => ?_) | refine rgc defCl hG (by kernel_rfl) cl0 (by rfl) (by kernel_rfl) (fun Θ K hΘ hcl hn0 hK => ?_) | refine rgd defCl hG (by kernel_rfl) cl0 (by rfl) (by kernel_rfl) (fun Θ K hΘ hcl hn0 hK => ?_)); simp (maxSteps := 2000000) only [go_sem, seval, Nat.reduceEqDiff, Nat.reduceLeDiff, reduceIte, reduceCtorEq, f1, g1, v1, hA, hll, hz, op_one]) | ((first | refine Post.splitN (fun gg => ?_) (fun gg => ?_) | refine PostB.splitN (fun gg => ?_) (fun gg => ?_) | refine Post.split (fun gg => ?_) (fun gg => ?_) | refine PostB.split (fun gg => ?_) (fun gg => ?_)) <;> simp (maxSteps := 2000000) only [go_sem, seval, Nat.reduceEqDiff, Nat.reduceLeDiff, reduceIte, reduceCtorEq, gg, f1, g1, v1, hA, hll, hz, op_one]) | ((first | refine finR (by simp only [go_sem, seval, Nat.reduceEqDiff, Nat.reduceLeDiff, reduceIte, reduceCtorEq, f1, g1, v1, hA, hll, hz, op_one]; exact rfl) ?_ | refine finN (by simp only [go_sem, seval, Nat.reduceEqDiff, Nat.reduceLeDiff, reduceIte, reduceCtorEq, f1, g1, v1, hA, hll, hz, op_one]; exact rfl) ?_); simp only [go_sem, seval, Nat.reduceEqDiff, Nat.reduceLeDiff, reduceIte, reduceCtorEq, f1, g1, v1, hA, hll, hz, op_one]) | refine updL hM ?_ (by omega) | (with_reducible exact fun _ _ => rfl))
      all_goals (first | omega | (simp only [decide_eq_true_eq, decide_eq_false_iff_not] at *; omega) | (simp only [List.length_append, List.length_cons, List.length_nil] <;> omega) | exact one_bv _ | exact one_sv _ | skip)
      refine ⟨(i + 1, upd m n (some (OpR.c ⟨(rdOp (L.getD i [])).1.d, (rdOp (L.getD i [])).1.a, (rdOp (L.getD i [])).1.dep, .sl false 32 (rdOp (L.getD i [])).1.ps.length (idsC (rdOp (L.getD i [])).1.ps)⟩)), n + 1), ⟨by simp only; omega, updL hM hk (by omega), by simp only; omega, ?_⟩, by simp only; omega, (sbs (by simp (maxSteps := 2000000) only [go_sem, seval, Nat.reduceEqDiff, Nat.reduceLeDiff, reduceIte, reduceCtorEq]) rfl rfl)⟩
      intro j hj
      simp only at hj
      by_cases e : j = i
      · subst e; exact hr
      · exact hg j (by omega)
    · have hr4 : (rdOp (L.getD i [])).2 = 4 := (rdOp_04 _).resolve_left hr
      have hd : rdBat s = ([], 4) := rdBat_no (by
        rintro ⟨_, _, q⟩
        rw [hL] at q
        exact hr (q _ (by rw [List.getD_eq_getElem?_getD, List.getElem?_eq_getElem h]; exact List.getElem_mem _)))
      have hc : rdC (L.getD i []) = opR0 := if_neg hr
      have z1 : opR0.z = opR0 := rfl
      have z2 : opR0.preds = .nil := rfl
      have z3 : noOwnB .nil = true := rfl
      have z4 : oneB .nil = true := rfl
      have hR := Read_sp (L.getD i [])
      rw [hc, hr4] at hR
      rw [hd]
      repeat' (first | (with_reducible first | refine pa ?_ | refine pb ?_ | refine pc ?_ | refine nxt_n ?_ | refine nxt_e ?_ | refine nxt_r ?_ | refine blk_n ?_ | refine blk_r ?_ | refine blk_hit ?_ | refine blk_miss (by rfl) ?_ | refine pd ?_ | refine pe ?_ | refine pf ?_ | refine pg ?_ | apply And.intro) | (refine hK _ ?_; first | clear hK K hn0 hcl hΘ Θ | clear hK K hΘ Θ) | (with_reducible first | refine cw1 ?_ | refine cw2 ?_ | exact cw3 | exact cw4) | ((with_reducible first | refine cw5 (fun gg => ?_) | refine cw6 (fun gg => ?_) | refine cw7 (fun gg => ?_)); try simp only [gg]) | refine cs1 hG rfl ?_ ?_ | refine cs2 hG rfl ?_ ?_ | ((first | refine kg (hR _ _) rfl hΘ ?_ | refine rga hG (by kernel_rfl) (fun Θ K hΘ hK => ?_) | refine rgb hG (by kernel_rfl) (fun Θ K hΘ hK => ?_) | refine rgc defCl hG (by kernel_rfl) cl0 (by rfl) (by kernel_rfl) (fun Θ K hΘ hcl hn0 hK => ?_) | refine rgd defCl hG (by kernel_rfl) cl0 (by rfl) (by kernel_rfl) (fun Θ K hΘ hcl hn0 hK => ?_)); simp (maxSteps := 2000000) only [go_sem, seval, Nat.reduceEqDiff, Nat.reduceLeDiff, reduceIte, reduceCtorEq, f1, g1, v1, e0, z1, z2, z3, z4]) | ((first | refine Post.splitN (fun gg => ?_) (fun gg => ?_) | refine PostB.splitN (fun gg => ?_) (fun gg => ?_) | refine Post.split (fun gg => ?_) (fun gg => ?_) | refine PostB.split (fun gg => ?_) (fun gg => ?_)) <;> simp (maxSteps := 2000000) only [go_sem, seval, Nat.reduceEqDiff, Nat.reduceLeDiff, reduceIte, reduceCtorEq, gg, f1, g1, v1, e0, z1, z2, z3, z4]) | ((first | refine finR (by simp only [go_sem, seval, Nat.reduceEqDiff, Nat.reduceLeDiff, reduceIte, reduceCtorEq, f1, g1, v1, e0, z1, z2, z3, z4]; exact rfl) ?_ | refine finN (by simp only [go_sem, seval, Nat.reduceEqDiff, Nat.reduceLeDiff, reduceIte, reduceCtorEq, f1, g1, v1, e0, z1, z2, z3, z4]; exact rfl) ?_); simp only [go_sem, seval, Nat.reduceEqDiff, Nat.reduceLeDiff, reduceIte, reduceCtorEq, f1, g1, v1, e0, z1, z2, z3, z4]) | refine updL hM ?_ (by omega) | (with_reducible exact fun _ _ => rfl))
      all_goals (first | omega | (simp only [decide_eq_true_eq, decide_eq_false_iff_not] at *; omega) | (simp only [List.length_append, List.length_cons, List.length_nil] <;> omega) | exact one_bv _ | exact one_sv _ | skip)
  · have f1 : ((i : Int) < (L.length : Int)) = False := eq_false (by omega)
    have hd := hall i hg (by omega)
    have e1 : i = L.length := by omega
    subst e1
    have e2 : (L.map fun t => (rdOp t).1).length = L.length := List.length_map _
    rw [hd, List.take_length]
    repeat' (first | (with_reducible first | refine pa ?_ | refine pb ?_ | refine pc ?_ | refine nxt_n ?_ | refine nxt_e ?_ | refine nxt_r ?_ | refine blk_n ?_ | refine blk_r ?_ | refine blk_hit ?_ | refine blk_miss (by rfl) ?_ | refine pd ?_ | refine pe ?_ | refine pf ?_ | refine pg ?_ | apply And.intro) | (refine hK _ ?_; first | clear hK K hn0 hcl hΘ Θ | clear hK K hΘ Θ) | (with_reducible first | refine cw1 ?_ | refine cw2 ?_ | exact cw3 | exact cw4) | ((with_reducible first | refine cw5 (fun gg => ?_) | refine cw6 (fun gg => ?_) | refine cw7 (fun gg => ?_)); try simp only [gg]) | refine cs1 hG rfl ?_ ?_ | refine cs2 hG rfl ?_ ?_ | ((first | refine rga hG (by kernel_rfl) (fun Θ K hΘ hK => ?_) | refine rgb hG (by kernel_rfl) (fun Θ K hΘ hK => ?_) | refine rgc defCl hG (by kernel_rfl) cl0 (by rfl) (by kernel_rfl) (fun Θ K hΘ hcl hn0 hK => ?_) | refine rgd defCl hG (by kernel_rfl) cl0 (by rfl) (by kernel_rfl) (fun Θ K hΘ hcl hn0 hK => ?_)); simp (maxSteps := 2000000) only [go_sem, seval, Nat.reduceEqDiff, Nat.reduceLeDiff, reduceIte, reduceCtorEq, f1, e2]) | ((first | refine Post.splitN (fun gg => ?_) (fun gg => ?_) | refine PostB.splitN (fun gg => ?_) (fun gg => ?_) | refine Post.split (fun gg => ?_) (fun gg => ?_) | refine PostB.split (fun gg => ?_) (fun gg => ?_)) <;> simp (maxSteps := 2000000) only [go_sem, seval, Nat.reduceEqDiff, Nat.reduceLeDiff, reduceIte, reduceCtorEq, gg, f1, e2]) | ((first | refine finR (by simp only [go_sem, seval, Nat.reduceEqDiff, Nat.reduceLeDiff, reduceIte, reduceCtorEq, f1, e2]; exact rfl) ?_ | refine finN (by simp only [go_sem, seval, Nat.reduceEqDiff, Nat.reduceLeDiff, reduceIte, reduceCtorEq, f1, e2]; exact rfl) ?_); simp only [go_sem, seval, Nat.reduceEqDiff, Nat.reduceLeDiff, reduceIte, reduceCtorEq, f1, e2]) | refine updL hM ?_ (by omega) | (with_reducible exact fun _ _ => rfl))
    all_goals (first | omega | (simp only [decide_eq_true_eq, decide_eq_false_iff_not] at *; omega) | (simp only [List.length_append, List.length_cons, List.length_nil] <;> omega) | exact one_bv _ | exact one_sv _ | skip)
