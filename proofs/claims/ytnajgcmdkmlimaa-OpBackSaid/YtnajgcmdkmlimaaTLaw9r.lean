/- Part TLaw9r of the proof: made for this claim. -/
import Derived.Test.YtnajgcmdkmlimaaTRdBOR
import Derived.Test.YtnajgcmdkmlimaaTSamA
import Derived.Test.YtnajgcmdkmlimaaTBatp
import Derived.Test.YtnajgcmdkmlimaaTAliv9
set_option linter.unusedVariables false
set_option linter.unusedSimpArgs false
set_option maxRecDepth 100000
set_option maxHeartbeats 8000000
open Go.RowKit
namespace Go.VL
open Go.Proofs
/-! What is read has these bytes. -/
theorem kO_of (s : List UInt8) : ((rdOp s).2 = 0 ∧ Rt 40 [.agg (rdC s).c] (.flat (.string (bs s)))) ∨ (rdOp s).2 = 4 := by
  rcases rdOp_04 s with h | h
  · refine .inl ⟨h, ?_⟩
    obtain ⟨h1, h2⟩ := rdOp_back h
    obtain ⟨l1, l2, l3⟩ := Opn.great_of2 (Opn.good_great h1)
    have := OText_sp (rdOp s).1 (rdOp_ok s) l1 l2 l3
    rw [h2] at this
    rw [rdC_yes h]; exact this
  · exact .inr h
theorem rdBat_04 (s : List UInt8) : (rdBat s).2 = 0 ∨ (rdBat s).2 = 4 := by
  unfold rdBat; split
  · exact .inl rfl
  · exact .inr rfl
theorem kB_of (s : List UInt8) : ((rdBat s).2 = 0 ∧ Rt 41 [.sl false 38 (rdBat s).1.length (Opn.lC (rdBat s).1)] (.flat (.string (bs s)))) ∨ (rdBat s).2 = 4 := by
  rcases rdBat_04 s with h | h
  · refine .inl ⟨h, ?_⟩
    obtain ⟨h1, h2, h3⟩ := rdBat_back h
    have := Batch_sp (rdBat s).1 (fun o ho => ⟨rdBat_ok s o ho, Opn.good_great (h3 o ho)⟩) (by omega)
    rw [h1] at this
    exact this
  · exact .inr h
theorem kD_of (s : List UInt8) : ((rdDrG s).2 = 0 ∧ Rt 31 [.agg (rdDrG s).1.c] (.flat (.string (bs s)))) ∨ (rdDrG s).2 = 4 := by
  rcases rdDrG_cases s with ⟨h, _⟩ | ⟨h, _⟩
  · refine .inl ⟨h, ?_⟩
    obtain ⟨h1, h2⟩ := rdDrG_back h
    obtain ⟨l1, l2⟩ := Dr.good_le h2
    have := DraftText_sp (rdDrG s).1 (rdDrG_ok s) (by omega)
    rw [← h1] at this
    exact this
  · exact .inr h
theorem cS_of (s : List UInt8) : Rt 38 [.agg (rdC s).c, .agg (rdC s).c] (.flat (.bool true)) := by
  by_cases h : (rdOp s).2 = 0
  · have := R9Same_sp (rdOp s).1 (rdOp s).1 (rdOp_ok s) (rdOp_ok s)
    rw [decide_eq_true rfl] at this
    rw [rdC_yes h]; exact this
  · have e : rdC s = opR0 := if_neg h
    rw [e]; exact R9Same_none
theorem rdC_z (s : List UInt8) : (rdC s).z = rdC s := by
  unfold rdC; split
  · exact opz _ _ _ _
  · rfl
theorem rdC_o (s : List UInt8) : noOwnB (rdC s).preds = true ∧ oneB (rdC s).preds = true := by
  unfold rdC; split <;> exact ⟨rfl, rfl⟩
theorem OpReads_sp (s : List UInt8) (hs : s.length ≤ 140737488351232) : Rt 8 [.flat (.string (bs s))] (.flat (.bool true)) := by
  by_cases h13 : s.length > 8192
  · have f0 : ((s.length : Int) > 8192) = True := eq_true (by omega)
    intro M mn
    refine fnL (C := kc 132 [] []) (rs := [.tmp 2]) envOk Try.func8 (by kernel_rfl) rfl rfl rfl rfl rfl rfl (Low.flat _) ?_
    intro E hG hM
    repeat' (first | (with_reducible first | refine pa ?_ | refine pb ?_ | refine pc ?_ | refine nxt_n ?_ | refine nxt_e ?_ | refine nxt_r ?_ | refine blk_n ?_ | refine blk_r ?_ | refine blk_hit ?_ | refine blk_miss (by rfl) ?_ | refine pd ?_ | refine pe ?_ | refine pf ?_ | refine pg ?_ | apply And.intro) | (refine hK _ ?_; first | clear hK K hn0 hcl hΘ Θ | clear hK K hΘ Θ) | (with_reducible first | refine cw1 ?_ | refine cw2 ?_ | exact cw3 | exact cw4) | ((with_reducible first | refine cw5 (fun gg => ?_) | refine cw6 (fun gg => ?_) | refine cw7 (fun gg => ?_)); try simp only [gg]) | refine cs1 hG rfl ?_ ?_ | refine cs2 hG rfl ?_ ?_ | ((first | refine kg (alive9_sp _ _) rfl hΘ ?_ | refine rga hG (by kernel_rfl) (fun Θ K hΘ hK => ?_) | refine rgb hG (by kernel_rfl) (fun Θ K hΘ hK => ?_) | refine rgc defCl hG (by kernel_rfl) cl0 (by rfl) (by kernel_rfl) (fun Θ K hΘ hcl hn0 hK => ?_) | refine rgd defCl hG (by kernel_rfl) cl0 (by rfl) (by kernel_rfl) (fun Θ K hΘ hcl hn0 hK => ?_)); simp (maxSteps := 2000000) only [go_sem, seval, Nat.reduceEqDiff, Nat.reduceLeDiff, reduceIte, reduceCtorEq, f0]) | ((first | refine Post.splitN (fun gg => ?_) (fun gg => ?_) | refine PostB.splitN (fun gg => ?_) (fun gg => ?_) | refine Post.split (fun gg => ?_) (fun gg => ?_) | refine PostB.split (fun gg => ?_) (fun gg => ?_)) <;> simp (maxSteps := 2000000) only [go_sem, seval, Nat.reduceEqDiff, Nat.reduceLeDiff, reduceIte, reduceCtorEq, gg, f0]) | ((first | refine finR (by simp only [go_sem, seval, Nat.reduceEqDiff, Nat.reduceLeDiff, reduceIte, reduceCtorEq, f0]; exact rfl) ?_ | refine finN (by simp only [go_sem, seval, Nat.reduceEqDiff, Nat.reduceLeDiff, reduceIte, reduceCtorEq, f0]; exact rfl) ?_); simp only [go_sem, seval, Nat.reduceEqDiff, Nat.reduceLeDiff, reduceIte, reduceCtorEq, f0]) | refine updL hM ?_ (by omega) | (with_reducible exact fun _ _ => rfl))
    all_goals (first | omega | (simp only [decide_eq_true_eq, decide_eq_false_iff_not] at *; omega) | (simp only [List.length_append, List.length_cons, List.length_nil] <;> omega) | exact one_bv _ | exact one_sv _ | skip)
  have f0 : ((s.length : Int) > 8192) = False := eq_false (by omega)
  have c1 := ReadDraft_sp s
  have c2 := R9ReadDraft_sp s (by omega)
  have c3 := Read_sp s
  have c4 := RRead_sp s (by omega)
  have c5 := ReadBatch_sp s
  have c6 := RReadBatch_sp s (by omega)
  have cS := cS_of s
  have hbl : (rdBat s).1.length ≤ 8192 := by
    unfold rdBat; split
    · rename_i h; simp; omega
    · simp
  have cA := R9SameAll_sp (rdBat s).1 (rdBat s).1 (rdBat_ok s) (rdBat_ok s) (by omega) (by omega)
  rw [decide_eq_true rfl] at cA
  have hf : Fit (CK.int .i64 :: CK.str :: CK.str :: ckB 32) (rdDrG s).1.c := Dr.fit _ (rdDrG_ok s)
  have hz := rdC_z s
  obtain ⟨hp1, hp2⟩ := rdC_o s
  have kD := kD_of s
  have kO := kO_of s
  have kB := kB_of s
  generalize rdDrG s = D at *
  generalize rdC s = O at *
  generalize (rdOp s).2 = eO at *
  generalize rdBat s = B at *
  obtain ⟨d, eD⟩ := D
  obtain ⟨l, eB⟩ := B
  simp only at *
  have d4 : decide ((4 : Int) = 0) = false := rfl
  have d0 : decide ((0 : Int) = 0) = true := rfl
  rcases kD with ⟨rfl, cD⟩ | rfl <;> rcases kO with ⟨rfl, cO⟩ | rfl <;> rcases kB with ⟨rfl, cB⟩ | rfl
  · rw [d0] at c2; rw [d0] at c4; rw [d0] at c6
    intro M mn
    refine fnL (C := kc 132 [] []) (rs := [.tmp 2]) envOk Try.func8 (by kernel_rfl) rfl rfl rfl rfl rfl rfl (Low.flat _) ?_
    intro E hG hM
    repeat' (first | (with_reducible first | refine pa ?_ | refine pb ?_ | refine pc ?_ | refine nxt_n ?_ | refine nxt_e ?_ | refine nxt_r ?_ | refine blk_n ?_ | refine blk_r ?_ | refine blk_hit ?_ | refine blk_miss (by rfl) ?_ | refine pd ?_ | refine pe ?_ | refine pf ?_ | refine pg ?_ | apply And.intro) | (refine hK _ ?_; first | clear hK K hn0 hcl hΘ Θ | clear hK K hΘ Θ) | (with_reducible first | refine cw1 ?_ | refine cw2 ?_ | exact cw3 | exact cw4) | ((with_reducible first | refine cw5 (fun gg => ?_) | refine cw6 (fun gg => ?_) | refine cw7 (fun gg => ?_)); try simp only [gg]) | refine cs1 hG rfl ?_ ?_ | refine cs2 hG rfl ?_ ?_ | ((first | refine kg (alive9_sp _ _) rfl hΘ ?_ | refine kg (c1 _ _) rfl hΘ ?_ | refine kg (c2 _ _) rfl hΘ ?_ | refine kg (c3 _ _) rfl hΘ ?_ | refine kg (c4 _ _) rfl hΘ ?_ | refine kg (c5 _ _) rfl hΘ ?_ | refine kg (c6 _ _) rfl hΘ ?_ | refine kg (cS _ _) rfl hΘ ?_ | refine kg (cA _ _) rfl hΘ ?_ | refine kg (cD _ _) rfl hΘ ?_ | refine kf (fun M n => cD M n) rfl (by decide) cl0 hΘ hcl hn0 ?_ | refine kg (cO _ _) rfl hΘ ?_ | refine kf (fun M n => cO M n) rfl (by decide) cl0 hΘ hcl hn0 ?_ | refine kg (cB _ _) rfl hΘ ?_ | refine kf (fun M n => cB M n) rfl (by decide) cl0 hΘ hcl hn0 ?_ | refine rga hG (by kernel_rfl) (fun Θ K hΘ hK => ?_) | refine rgb hG (by kernel_rfl) (fun Θ K hΘ hK => ?_) | refine rgc defCl hG (by kernel_rfl) cl0 (by rfl) (by kernel_rfl) (fun Θ K hΘ hcl hn0 hK => ?_) | refine rgd defCl hG (by kernel_rfl) cl0 (by rfl) (by kernel_rfl) (fun Θ K hΘ hcl hn0 hK => ?_)); simp (maxSteps := 2000000) only [go_sem, seval, Nat.reduceEqDiff, Nat.reduceLeDiff, reduceIte, reduceCtorEq, f0, hf, hz, hp1, hp2]) | ((first | refine Post.splitN (fun gg => ?_) (fun gg => ?_) | refine PostB.splitN (fun gg => ?_) (fun gg => ?_) | refine Post.split (fun gg => ?_) (fun gg => ?_) | refine PostB.split (fun gg => ?_) (fun gg => ?_)) <;> simp (maxSteps := 2000000) only [go_sem, seval, Nat.reduceEqDiff, Nat.reduceLeDiff, reduceIte, reduceCtorEq, gg, f0, hf, hz, hp1, hp2]) | ((first | refine finR (by simp only [go_sem, seval, Nat.reduceEqDiff, Nat.reduceLeDiff, reduceIte, reduceCtorEq, f0, hf, hz, hp1, hp2]; exact rfl) ?_ | refine finN (by simp only [go_sem, seval, Nat.reduceEqDiff, Nat.reduceLeDiff, reduceIte, reduceCtorEq, f0, hf, hz, hp1, hp2]; exact rfl) ?_); simp only [go_sem, seval, Nat.reduceEqDiff, Nat.reduceLeDiff, reduceIte, reduceCtorEq, f0, hf, hz, hp1, hp2]) | refine updL hM ?_ (by omega) | (with_reducible exact fun _ _ => rfl))
    all_goals (first | omega | (simp only [decide_eq_true_eq, decide_eq_false_iff_not] at *; omega) | (simp only [List.length_append, List.length_cons, List.length_nil] <;> omega) | exact one_bv _ | exact one_sv _ | skip)
  · rw [d0] at c2; rw [d0] at c4; rw [d4] at c6
    intro M mn
    refine fnL (C := kc 132 [] []) (rs := [.tmp 2]) envOk Try.func8 (by kernel_rfl) rfl rfl rfl rfl rfl rfl (Low.flat _) ?_
    intro E hG hM
    repeat' (first | (with_reducible first | refine pa ?_ | refine pb ?_ | refine pc ?_ | refine nxt_n ?_ | refine nxt_e ?_ | refine nxt_r ?_ | refine blk_n ?_ | refine blk_r ?_ | refine blk_hit ?_ | refine blk_miss (by rfl) ?_ | refine pd ?_ | refine pe ?_ | refine pf ?_ | refine pg ?_ | apply And.intro) | (refine hK _ ?_; first | clear hK K hn0 hcl hΘ Θ | clear hK K hΘ Θ) | (with_reducible first | refine cw1 ?_ | refine cw2 ?_ | exact cw3 | exact cw4) | ((with_reducible first | refine cw5 (fun gg => ?_) | refine cw6 (fun gg => ?_) | refine cw7 (fun gg => ?_)); try simp only [gg]) | refine cs1 hG rfl ?_ ?_ | refine cs2 hG rfl ?_ ?_ | ((first | refine kg (alive9_sp _ _) rfl hΘ ?_ | refine kg (c1 _ _) rfl hΘ ?_ | refine kg (c2 _ _) rfl hΘ ?_ | refine kg (c3 _ _) rfl hΘ ?_ | refine kg (c4 _ _) rfl hΘ ?_ | refine kg (c5 _ _) rfl hΘ ?_ | refine kg (c6 _ _) rfl hΘ ?_ | refine kg (cS _ _) rfl hΘ ?_ | refine kg (cA _ _) rfl hΘ ?_ | refine kg (cD _ _) rfl hΘ ?_ | refine kf (fun M n => cD M n) rfl (by decide) cl0 hΘ hcl hn0 ?_ | refine kg (cO _ _) rfl hΘ ?_ | refine kf (fun M n => cO M n) rfl (by decide) cl0 hΘ hcl hn0 ?_ | refine rga hG (by kernel_rfl) (fun Θ K hΘ hK => ?_) | refine rgb hG (by kernel_rfl) (fun Θ K hΘ hK => ?_) | refine rgc defCl hG (by kernel_rfl) cl0 (by rfl) (by kernel_rfl) (fun Θ K hΘ hcl hn0 hK => ?_) | refine rgd defCl hG (by kernel_rfl) cl0 (by rfl) (by kernel_rfl) (fun Θ K hΘ hcl hn0 hK => ?_)); simp (maxSteps := 2000000) only [go_sem, seval, Nat.reduceEqDiff, Nat.reduceLeDiff, reduceIte, reduceCtorEq, f0, hf, hz, hp1, hp2]) | ((first | refine Post.splitN (fun gg => ?_) (fun gg => ?_) | refine PostB.splitN (fun gg => ?_) (fun gg => ?_) | refine Post.split (fun gg => ?_) (fun gg => ?_) | refine PostB.split (fun gg => ?_) (fun gg => ?_)) <;> simp (maxSteps := 2000000) only [go_sem, seval, Nat.reduceEqDiff, Nat.reduceLeDiff, reduceIte, reduceCtorEq, gg, f0, hf, hz, hp1, hp2]) | ((first | refine finR (by simp only [go_sem, seval, Nat.reduceEqDiff, Nat.reduceLeDiff, reduceIte, reduceCtorEq, f0, hf, hz, hp1, hp2]; exact rfl) ?_ | refine finN (by simp only [go_sem, seval, Nat.reduceEqDiff, Nat.reduceLeDiff, reduceIte, reduceCtorEq, f0, hf, hz, hp1, hp2]; exact rfl) ?_); simp only [go_sem, seval, Nat.reduceEqDiff, Nat.reduceLeDiff, reduceIte, reduceCtorEq, f0, hf, hz, hp1, hp2]) | refine updL hM ?_ (by omega) | (with_reducible exact fun _ _ => rfl))
    all_goals (first | omega | (simp only [decide_eq_true_eq, decide_eq_false_iff_not] at *; omega) | (simp only [List.length_append, List.length_cons, List.length_nil] <;> omega) | exact one_bv _ | exact one_sv _ | skip)
  · rw [d0] at c2; rw [d4] at c4; rw [d0] at c6
    intro M mn
    refine fnL (C := kc 132 [] []) (rs := [.tmp 2]) envOk Try.func8 (by kernel_rfl) rfl rfl rfl rfl rfl rfl (Low.flat _) ?_
    intro E hG hM
    repeat' (first | (with_reducible first | refine pa ?_ | refine pb ?_ | refine pc ?_ | refine nxt_n ?_ | refine nxt_e ?_ | refine nxt_r ?_ | refine blk_n ?_ | refine blk_r ?_ | refine blk_hit ?_ | refine blk_miss (by rfl) ?_ | refine pd ?_ | refine pe ?_ | refine pf ?_ | refine pg ?_ | apply And.intro) | (refine hK _ ?_; first | clear hK K hn0 hcl hΘ Θ | clear hK K hΘ Θ) | (with_reducible first | refine cw1 ?_ | refine cw2 ?_ | exact cw3 | exact cw4) | ((with_reducible first | refine cw5 (fun gg => ?_) | refine cw6 (fun gg => ?_) | refine cw7 (fun gg => ?_)); try simp only [gg]) | refine cs1 hG rfl ?_ ?_ | refine cs2 hG rfl ?_ ?_ | ((first | refine kg (alive9_sp _ _) rfl hΘ ?_ | refine kg (c1 _ _) rfl hΘ ?_ | refine kg (c2 _ _) rfl hΘ ?_ | refine kg (c3 _ _) rfl hΘ ?_ | refine kg (c4 _ _) rfl hΘ ?_ | refine kg (c5 _ _) rfl hΘ ?_ | refine kg (c6 _ _) rfl hΘ ?_ | refine kg (cS _ _) rfl hΘ ?_ | refine kg (cA _ _) rfl hΘ ?_ | refine kg (cD _ _) rfl hΘ ?_ | refine kf (fun M n => cD M n) rfl (by decide) cl0 hΘ hcl hn0 ?_ | refine kg (cB _ _) rfl hΘ ?_ | refine kf (fun M n => cB M n) rfl (by decide) cl0 hΘ hcl hn0 ?_ | refine rga hG (by kernel_rfl) (fun Θ K hΘ hK => ?_) | refine rgb hG (by kernel_rfl) (fun Θ K hΘ hK => ?_) | refine rgc defCl hG (by kernel_rfl) cl0 (by rfl) (by kernel_rfl) (fun Θ K hΘ hcl hn0 hK => ?_) | refine rgd defCl hG (by kernel_rfl) cl0 (by rfl) (by kernel_rfl) (fun Θ K hΘ hcl hn0 hK => ?_)); simp (maxSteps := 2000000) only [go_sem, seval, Nat.reduceEqDiff, Nat.reduceLeDiff, reduceIte, reduceCtorEq, f0, hf, hz, hp1, hp2]) | ((first | refine Post.splitN (fun gg => ?_) (fun gg => ?_) | refine PostB.splitN (fun gg => ?_) (fun gg => ?_) | refine Post.split (fun gg => ?_) (fun gg => ?_) | refine PostB.split (fun gg => ?_) (fun gg => ?_)) <;> simp (maxSteps := 2000000) only [go_sem, seval, Nat.reduceEqDiff, Nat.reduceLeDiff, reduceIte, reduceCtorEq, gg, f0, hf, hz, hp1, hp2]) | ((first | refine finR (by simp only [go_sem, seval, Nat.reduceEqDiff, Nat.reduceLeDiff, reduceIte, reduceCtorEq, f0, hf, hz, hp1, hp2]; exact rfl) ?_ | refine finN (by simp only [go_sem, seval, Nat.reduceEqDiff, Nat.reduceLeDiff, reduceIte, reduceCtorEq, f0, hf, hz, hp1, hp2]; exact rfl) ?_); simp only [go_sem, seval, Nat.reduceEqDiff, Nat.reduceLeDiff, reduceIte, reduceCtorEq, f0, hf, hz, hp1, hp2]) | refine updL hM ?_ (by omega) | (with_reducible exact fun _ _ => rfl))
    all_goals (first | omega | (simp only [decide_eq_true_eq, decide_eq_false_iff_not] at *; omega) | (simp only [List.length_append, List.length_cons, List.length_nil] <;> omega) | exact one_bv _ | exact one_sv _ | skip)
  · rw [d0] at c2; rw [d4] at c4; rw [d4] at c6
    intro M mn
    refine fnL (C := kc 132 [] []) (rs := [.tmp 2]) envOk Try.func8 (by kernel_rfl) rfl rfl rfl rfl rfl rfl (Low.flat _) ?_
    intro E hG hM
    repeat' (first | (with_reducible first | refine pa ?_ | refine pb ?_ | refine pc ?_ | refine nxt_n ?_ | refine nxt_e ?_ | refine nxt_r ?_ | refine blk_n ?_ | refine blk_r ?_ | refine blk_hit ?_ | refine blk_miss (by rfl) ?_ | refine pd ?_ | refine pe ?_ | refine pf ?_ | refine pg ?_ | apply And.intro) | (refine hK _ ?_; first | clear hK K hn0 hcl hΘ Θ | clear hK K hΘ Θ) | (with_reducible first | refine cw1 ?_ | refine cw2 ?_ | exact cw3 | exact cw4) | ((with_reducible first | refine cw5 (fun gg => ?_) | refine cw6 (fun gg => ?_) | refine cw7 (fun gg => ?_)); try simp only [gg]) | refine cs1 hG rfl ?_ ?_ | refine cs2 hG rfl ?_ ?_ | ((first | refine kg (alive9_sp _ _) rfl hΘ ?_ | refine kg (c1 _ _) rfl hΘ ?_ | refine kg (c2 _ _) rfl hΘ ?_ | refine kg (c3 _ _) rfl hΘ ?_ | refine kg (c4 _ _) rfl hΘ ?_ | refine kg (c5 _ _) rfl hΘ ?_ | refine kg (c6 _ _) rfl hΘ ?_ | refine kg (cS _ _) rfl hΘ ?_ | refine kg (cA _ _) rfl hΘ ?_ | refine kg (cD _ _) rfl hΘ ?_ | refine kf (fun M n => cD M n) rfl (by decide) cl0 hΘ hcl hn0 ?_ | refine rga hG (by kernel_rfl) (fun Θ K hΘ hK => ?_) | refine rgb hG (by kernel_rfl) (fun Θ K hΘ hK => ?_) | refine rgc defCl hG (by kernel_rfl) cl0 (by rfl) (by kernel_rfl) (fun Θ K hΘ hcl hn0 hK => ?_) | refine rgd defCl hG (by kernel_rfl) cl0 (by rfl) (by kernel_rfl) (fun Θ K hΘ hcl hn0 hK => ?_)); simp (maxSteps := 2000000) only [go_sem, seval, Nat.reduceEqDiff, Nat.reduceLeDiff, reduceIte, reduceCtorEq, f0, hf, hz, hp1, hp2]) | ((first | refine Post.splitN (fun gg => ?_) (fun gg => ?_) | refine PostB.splitN (fun gg => ?_) (fun gg => ?_) | refine Post.split (fun gg => ?_) (fun gg => ?_) | refine PostB.split (fun gg => ?_) (fun gg => ?_)) <;> simp (maxSteps := 2000000) only [go_sem, seval, Nat.reduceEqDiff, Nat.reduceLeDiff, reduceIte, reduceCtorEq, gg, f0, hf, hz, hp1, hp2]) | ((first | refine finR (by simp only [go_sem, seval, Nat.reduceEqDiff, Nat.reduceLeDiff, reduceIte, reduceCtorEq, f0, hf, hz, hp1, hp2]; exact rfl) ?_ | refine finN (by simp only [go_sem, seval, Nat.reduceEqDiff, Nat.reduceLeDiff, reduceIte, reduceCtorEq, f0, hf, hz, hp1, hp2]; exact rfl) ?_); simp only [go_sem, seval, Nat.reduceEqDiff, Nat.reduceLeDiff, reduceIte, reduceCtorEq, f0, hf, hz, hp1, hp2]) | refine updL hM ?_ (by omega) | (with_reducible exact fun _ _ => rfl))
    all_goals (first | omega | (simp only [decide_eq_true_eq, decide_eq_false_iff_not] at *; omega) | (simp only [List.length_append, List.length_cons, List.length_nil] <;> omega) | exact one_bv _ | exact one_sv _ | skip)
  · rw [d4] at c2; rw [d0] at c4; rw [d0] at c6
    intro M mn
    refine fnL (C := kc 132 [] []) (rs := [.tmp 2]) envOk Try.func8 (by kernel_rfl) rfl rfl rfl rfl rfl rfl (Low.flat _) ?_
    intro E hG hM
    repeat' (first | (with_reducible first | refine pa ?_ | refine pb ?_ | refine pc ?_ | refine nxt_n ?_ | refine nxt_e ?_ | refine nxt_r ?_ | refine blk_n ?_ | refine blk_r ?_ | refine blk_hit ?_ | refine blk_miss (by rfl) ?_ | refine pd ?_ | refine pe ?_ | refine pf ?_ | refine pg ?_ | apply And.intro) | (refine hK _ ?_; first | clear hK K hn0 hcl hΘ Θ | clear hK K hΘ Θ) | (with_reducible first | refine cw1 ?_ | refine cw2 ?_ | exact cw3 | exact cw4) | ((with_reducible first | refine cw5 (fun gg => ?_) | refine cw6 (fun gg => ?_) | refine cw7 (fun gg => ?_)); try simp only [gg]) | refine cs1 hG rfl ?_ ?_ | refine cs2 hG rfl ?_ ?_ | ((first | refine kg (alive9_sp _ _) rfl hΘ ?_ | refine kg (c1 _ _) rfl hΘ ?_ | refine kg (c2 _ _) rfl hΘ ?_ | refine kg (c3 _ _) rfl hΘ ?_ | refine kg (c4 _ _) rfl hΘ ?_ | refine kg (c5 _ _) rfl hΘ ?_ | refine kg (c6 _ _) rfl hΘ ?_ | refine kg (cS _ _) rfl hΘ ?_ | refine kg (cA _ _) rfl hΘ ?_ | refine kg (cO _ _) rfl hΘ ?_ | refine kf (fun M n => cO M n) rfl (by decide) cl0 hΘ hcl hn0 ?_ | refine kg (cB _ _) rfl hΘ ?_ | refine kf (fun M n => cB M n) rfl (by decide) cl0 hΘ hcl hn0 ?_ | refine rga hG (by kernel_rfl) (fun Θ K hΘ hK => ?_) | refine rgb hG (by kernel_rfl) (fun Θ K hΘ hK => ?_) | refine rgc defCl hG (by kernel_rfl) cl0 (by rfl) (by kernel_rfl) (fun Θ K hΘ hcl hn0 hK => ?_) | refine rgd defCl hG (by kernel_rfl) cl0 (by rfl) (by kernel_rfl) (fun Θ K hΘ hcl hn0 hK => ?_)); simp (maxSteps := 2000000) only [go_sem, seval, Nat.reduceEqDiff, Nat.reduceLeDiff, reduceIte, reduceCtorEq, f0, hf, hz, hp1, hp2]) | ((first | refine Post.splitN (fun gg => ?_) (fun gg => ?_) | refine PostB.splitN (fun gg => ?_) (fun gg => ?_) | refine Post.split (fun gg => ?_) (fun gg => ?_) | refine PostB.split (fun gg => ?_) (fun gg => ?_)) <;> simp (maxSteps := 2000000) only [go_sem, seval, Nat.reduceEqDiff, Nat.reduceLeDiff, reduceIte, reduceCtorEq, gg, f0, hf, hz, hp1, hp2]) | ((first | refine finR (by simp only [go_sem, seval, Nat.reduceEqDiff, Nat.reduceLeDiff, reduceIte, reduceCtorEq, f0, hf, hz, hp1, hp2]; exact rfl) ?_ | refine finN (by simp only [go_sem, seval, Nat.reduceEqDiff, Nat.reduceLeDiff, reduceIte, reduceCtorEq, f0, hf, hz, hp1, hp2]; exact rfl) ?_); simp only [go_sem, seval, Nat.reduceEqDiff, Nat.reduceLeDiff, reduceIte, reduceCtorEq, f0, hf, hz, hp1, hp2]) | refine updL hM ?_ (by omega) | (with_reducible exact fun _ _ => rfl))
    all_goals (first | omega | (simp only [decide_eq_true_eq, decide_eq_false_iff_not] at *; omega) | (simp only [List.length_append, List.length_cons, List.length_nil] <;> omega) | exact one_bv _ | exact one_sv _ | skip)
  · rw [d4] at c2; rw [d0] at c4; rw [d4] at c6
    intro M mn
    refine fnL (C := kc 132 [] []) (rs := [.tmp 2]) envOk Try.func8 (by kernel_rfl) rfl rfl rfl rfl rfl rfl (Low.flat _) ?_
    intro E hG hM
    repeat' (first | (with_reducible first | refine pa ?_ | refine pb ?_ | refine pc ?_ | refine nxt_n ?_ | refine nxt_e ?_ | refine nxt_r ?_ | refine blk_n ?_ | refine blk_r ?_ | refine blk_hit ?_ | refine blk_miss (by rfl) ?_ | refine pd ?_ | refine pe ?_ | refine pf ?_ | refine pg ?_ | apply And.intro) | (refine hK _ ?_; first | clear hK K hn0 hcl hΘ Θ | clear hK K hΘ Θ) | (with_reducible first | refine cw1 ?_ | refine cw2 ?_ | exact cw3 | exact cw4) | ((with_reducible first | refine cw5 (fun gg => ?_) | refine cw6 (fun gg => ?_) | refine cw7 (fun gg => ?_)); try simp only [gg]) | refine cs1 hG rfl ?_ ?_ | refine cs2 hG rfl ?_ ?_ | ((first | refine kg (alive9_sp _ _) rfl hΘ ?_ | refine kg (c1 _ _) rfl hΘ ?_ | refine kg (c2 _ _) rfl hΘ ?_ | refine kg (c3 _ _) rfl hΘ ?_ | refine kg (c4 _ _) rfl hΘ ?_ | refine kg (c5 _ _) rfl hΘ ?_ | refine kg (c6 _ _) rfl hΘ ?_ | refine kg (cS _ _) rfl hΘ ?_ | refine kg (cA _ _) rfl hΘ ?_ | refine kg (cO _ _) rfl hΘ ?_ | refine kf (fun M n => cO M n) rfl (by decide) cl0 hΘ hcl hn0 ?_ | refine rga hG (by kernel_rfl) (fun Θ K hΘ hK => ?_) | refine rgb hG (by kernel_rfl) (fun Θ K hΘ hK => ?_) | refine rgc defCl hG (by kernel_rfl) cl0 (by rfl) (by kernel_rfl) (fun Θ K hΘ hcl hn0 hK => ?_) | refine rgd defCl hG (by kernel_rfl) cl0 (by rfl) (by kernel_rfl) (fun Θ K hΘ hcl hn0 hK => ?_)); simp (maxSteps := 2000000) only [go_sem, seval, Nat.reduceEqDiff, Nat.reduceLeDiff, reduceIte, reduceCtorEq, f0, hf, hz, hp1, hp2]) | ((first | refine Post.splitN (fun gg => ?_) (fun gg => ?_) | refine PostB.splitN (fun gg => ?_) (fun gg => ?_) | refine Post.split (fun gg => ?_) (fun gg => ?_) | refine PostB.split (fun gg => ?_) (fun gg => ?_)) <;> simp (maxSteps := 2000000) only [go_sem, seval, Nat.reduceEqDiff, Nat.reduceLeDiff, reduceIte, reduceCtorEq, gg, f0, hf, hz, hp1, hp2]) | ((first | refine finR (by simp only [go_sem, seval, Nat.reduceEqDiff, Nat.reduceLeDiff, reduceIte, reduceCtorEq, f0, hf, hz, hp1, hp2]; exact rfl) ?_ | refine finN (by simp only [go_sem, seval, Nat.reduceEqDiff, Nat.reduceLeDiff, reduceIte, reduceCtorEq, f0, hf, hz, hp1, hp2]; exact rfl) ?_); simp only [go_sem, seval, Nat.reduceEqDiff, Nat.reduceLeDiff, reduceIte, reduceCtorEq, f0, hf, hz, hp1, hp2]) | refine updL hM ?_ (by omega) | (with_reducible exact fun _ _ => rfl))
    all_goals (first | omega | (simp only [decide_eq_true_eq, decide_eq_false_iff_not] at *; omega) | (simp only [List.length_append, List.length_cons, List.length_nil] <;> omega) | exact one_bv _ | exact one_sv _ | skip)
  · rw [d4] at c2; rw [d4] at c4; rw [d0] at c6
    intro M mn
    refine fnL (C := kc 132 [] []) (rs := [.tmp 2]) envOk Try.func8 (by kernel_rfl) rfl rfl rfl rfl rfl rfl (Low.flat _) ?_
    intro E hG hM
    repeat' (first | (with_reducible first | refine pa ?_ | refine pb ?_ | refine pc ?_ | refine nxt_n ?_ | refine nxt_e ?_ | refine nxt_r ?_ | refine blk_n ?_ | refine blk_r ?_ | refine blk_hit ?_ | refine blk_miss (by rfl) ?_ | refine pd ?_ | refine pe ?_ | refine pf ?_ | refine pg ?_ | apply And.intro) | (refine hK _ ?_; first | clear hK K hn0 hcl hΘ Θ | clear hK K hΘ Θ) | (with_reducible first | refine cw1 ?_ | refine cw2 ?_ | exact cw3 | exact cw4) | ((with_reducible first | refine cw5 (fun gg => ?_) | refine cw6 (fun gg => ?_) | refine cw7 (fun gg => ?_)); try simp only [gg]) | refine cs1 hG rfl ?_ ?_ | refine cs2 hG rfl ?_ ?_ | ((first | refine kg (alive9_sp _ _) rfl hΘ ?_ | refine kg (c1 _ _) rfl hΘ ?_ | refine kg (c2 _ _) rfl hΘ ?_ | refine kg (c3 _ _) rfl hΘ ?_ | refine kg (c4 _ _) rfl hΘ ?_ | refine kg (c5 _ _) rfl hΘ ?_ | refine kg (c6 _ _) rfl hΘ ?_ | refine kg (cS _ _) rfl hΘ ?_ | refine kg (cA _ _) rfl hΘ ?_ | refine kg (cB _ _) rfl hΘ ?_ | refine kf (fun M n => cB M n) rfl (by decide) cl0 hΘ hcl hn0 ?_ | refine rga hG (by kernel_rfl) (fun Θ K hΘ hK => ?_) | refine rgb hG (by kernel_rfl) (fun Θ K hΘ hK => ?_) | refine rgc defCl hG (by kernel_rfl) cl0 (by rfl) (by kernel_rfl) (fun Θ K hΘ hcl hn0 hK => ?_) | refine rgd defCl hG (by kernel_rfl) cl0 (by rfl) (by kernel_rfl) (fun Θ K hΘ hcl hn0 hK => ?_)); simp (maxSteps := 2000000) only [go_sem, seval, Nat.reduceEqDiff, Nat.reduceLeDiff, reduceIte, reduceCtorEq, f0, hf, hz, hp1, hp2]) | ((first | refine Post.splitN (fun gg => ?_) (fun gg => ?_) | refine PostB.splitN (fun gg => ?_) (fun gg => ?_) | refine Post.split (fun gg => ?_) (fun gg => ?_) | refine PostB.split (fun gg => ?_) (fun gg => ?_)) <;> simp (maxSteps := 2000000) only [go_sem, seval, Nat.reduceEqDiff, Nat.reduceLeDiff, reduceIte, reduceCtorEq, gg, f0, hf, hz, hp1, hp2]) | ((first | refine finR (by simp only [go_sem, seval, Nat.reduceEqDiff, Nat.reduceLeDiff, reduceIte, reduceCtorEq, f0, hf, hz, hp1, hp2]; exact rfl) ?_ | refine finN (by simp only [go_sem, seval, Nat.reduceEqDiff, Nat.reduceLeDiff, reduceIte, reduceCtorEq, f0, hf, hz, hp1, hp2]; exact rfl) ?_); simp only [go_sem, seval, Nat.reduceEqDiff, Nat.reduceLeDiff, reduceIte, reduceCtorEq, f0, hf, hz, hp1, hp2]) | refine updL hM ?_ (by omega) | (with_reducible exact fun _ _ => rfl))
    all_goals (first | omega | (simp only [decide_eq_true_eq, decide_eq_false_iff_not] at *; omega) | (simp only [List.length_append, List.length_cons, List.length_nil] <;> omega) | exact one_bv _ | exact one_sv _ | skip)
  · rw [d4] at c2; rw [d4] at c4; rw [d4] at c6
    intro M mn
    refine fnL (C := kc 132 [] []) (rs := [.tmp 2]) envOk Try.func8 (by kernel_rfl) rfl rfl rfl rfl rfl rfl (Low.flat _) ?_
    intro E hG hM
    repeat' (first | (with_reducible first | refine pa ?_ | refine pb ?_ | refine pc ?_ | refine nxt_n ?_ | refine nxt_e ?_ | refine nxt_r ?_ | refine blk_n ?_ | refine blk_r ?_ | refine blk_hit ?_ | refine blk_miss (by rfl) ?_ | refine pd ?_ | refine pe ?_ | refine pf ?_ | refine pg ?_ | apply And.intro) | (refine hK _ ?_; first | clear hK K hn0 hcl hΘ Θ | clear hK K hΘ Θ) | (with_reducible first | refine cw1 ?_ | refine cw2 ?_ | exact cw3 | exact cw4) | ((with_reducible first | refine cw5 (fun gg => ?_) | refine cw6 (fun gg => ?_) | refine cw7 (fun gg => ?_)); try simp only [gg]) | refine cs1 hG rfl ?_ ?_ | refine cs2 hG rfl ?_ ?_ | ((first | refine kg (alive9_sp _ _) rfl hΘ ?_ | refine kg (c1 _ _) rfl hΘ ?_ | refine kg (c2 _ _) rfl hΘ ?_ | refine kg (c3 _ _) rfl hΘ ?_ | refine kg (c4 _ _) rfl hΘ ?_ | refine kg (c5 _ _) rfl hΘ ?_ | refine kg (c6 _ _) rfl hΘ ?_ | refine kg (cS _ _) rfl hΘ ?_ | refine kg (cA _ _) rfl hΘ ?_ | refine rga hG (by kernel_rfl) (fun Θ K hΘ hK => ?_) | refine rgb hG (by kernel_rfl) (fun Θ K hΘ hK => ?_) | refine rgc defCl hG (by kernel_rfl) cl0 (by rfl) (by kernel_rfl) (fun Θ K hΘ hcl hn0 hK => ?_) | refine rgd defCl hG (by kernel_rfl) cl0 (by rfl) (by kernel_rfl) (fun Θ K hΘ hcl hn0 hK => ?_)); simp (maxSteps := 2000000) only [go_sem, seval, Nat.reduceEqDiff, Nat.reduceLeDiff, reduceIte, reduceCtorEq, f0, hf, hz, hp1, hp2]) | ((first | refine Post.splitN (fun gg => ?_) (fun gg => ?_) | refine PostB.splitN (fun gg => ?_) (fun gg => ?_) | refine Post.split (fun gg => ?_) (fun gg => ?_) | refine PostB.split (fun gg => ?_) (fun gg => ?_)) <;> simp (maxSteps := 2000000) only [go_sem, seval, Nat.reduceEqDiff, Nat.reduceLeDiff, reduceIte, reduceCtorEq, gg, f0, hf, hz, hp1, hp2]) | ((first | refine finR (by simp only [go_sem, seval, Nat.reduceEqDiff, Nat.reduceLeDiff, reduceIte, reduceCtorEq, f0, hf, hz, hp1, hp2]; exact rfl) ?_ | refine finN (by simp only [go_sem, seval, Nat.reduceEqDiff, Nat.reduceLeDiff, reduceIte, reduceCtorEq, f0, hf, hz, hp1, hp2]; exact rfl) ?_); simp only [go_sem, seval, Nat.reduceEqDiff, Nat.reduceLeDiff, reduceIte, reduceCtorEq, f0, hf, hz, hp1, hp2]) | refine updL hM ?_ (by omega) | (with_reducible exact fun _ _ => rfl))
    all_goals (first | omega | (simp only [decide_eq_true_eq, decide_eq_false_iff_not] at *; omega) | (simp only [List.length_append, List.length_cons, List.length_nil] <;> omega) | exact one_bv _ | exact one_sv _ | skip)
