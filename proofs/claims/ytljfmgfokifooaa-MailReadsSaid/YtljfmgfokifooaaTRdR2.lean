/- Part TRdR2 of the proof: made for this claim. -/
import Derived.Test.YtljfmgfokifooaaTRdR
set_option linter.unusedVariables false
set_option linter.unusedSimpArgs false
set_option maxRecDepth 100000
set_option maxHeartbeats 8000000
open Go.RowKit
namespace Go.VL
open Go.Proofs
theorem tText_low (s : List UInt8) : Low (tText s) := lowTup (lowC1 (Low.flat _) (lowC1 (Low.flat _) (lowC1 (Low.flat _) lowC0)))
theorem TakeText_sp (s : List UInt8) (hs : s.length ≤ 4611686018427387904) : Rt 72 [.flat (.string (bs s))] (tText s) := by
  have hrt : rText s false = rTake (rNum s false).1 (rNum s false).2.1 (rNum s false).2.2 := rfl
  have hrl := rNum_rest s false
  have hlt := rNum_lt s false
  have hT := TakeNum_sp s hs
  unfold tNum at hT
  generalize hA : rNum s false = A at *
  obtain ⟨n, s1, f1⟩ := A
  simp only at *
  intro M mn
  refine fnL (C := kc 28 [] []) (rs := [.tmp 2, .tmp 3, .tmp 4]) envOk Try.func72 (by kernel_rfl) rfl rfl rfl rfl rfl rfl (tText_low s) ?_
  intro E hG hM
  cases f1
  · by_cases hn : s1.length < n
    · have hf : tText s = .tup [.flat (.string (bs [])), .flat (.string (bs [])), .flat (.bool false)] := by rw [tText, hrt]; simp [rTake, hn]
      have q1 : ((n : Int) > s1.length) = True := eq_true (by omega)
      repeat' (first | (with_reducible first | refine pa ?_ | refine pb ?_ | refine pc ?_ | refine nxt_n ?_ | refine nxt_e ?_ | refine nxt_r ?_ | refine blk_n ?_ | refine blk_r ?_ | refine blk_hit ?_ | refine blk_miss (by rfl) ?_ | refine pd ?_ | refine pe ?_ | refine pf ?_ | refine pg ?_ | apply And.intro) | (refine hK _ ?_; first | clear hK K hn0 hcl hΘ Θ | clear hK K hΘ Θ) | (with_reducible first | refine cw1 ?_ | refine cw2 ?_ | exact cw3 | exact cw4) | ((with_reducible first | refine cw5 (fun gg => ?_) | refine cw6 (fun gg => ?_) | refine cw7 (fun gg => ?_)); try simp only [gg]) | refine cs1 hG rfl ?_ ?_ | refine cs2 hG rfl ?_ ?_ | ((first | refine kg (hT _ _) rfl hΘ ?_ | refine rga hG (by kernel_rfl) (fun Θ K hΘ hK => ?_) | refine rgb hG (by kernel_rfl) (fun Θ K hΘ hK => ?_) | refine rgc defCl hG (by kernel_rfl) cl0 (by rfl) (by kernel_rfl) (fun Θ K hΘ hcl hn0 hK => ?_) | refine rgd defCl hG (by kernel_rfl) cl0 (by rfl) (by kernel_rfl) (fun Θ K hΘ hcl hn0 hK => ?_)); simp (maxSteps := 2000000) only [go_sem, seval, reduceCtorEq, q1, hf]) | ((first | refine Post.splitN (fun gg => ?_) (fun gg => ?_) | refine PostB.splitN (fun gg => ?_) (fun gg => ?_) | refine Post.split (fun gg => ?_) (fun gg => ?_) | refine PostB.split (fun gg => ?_) (fun gg => ?_)) <;> simp (maxSteps := 2000000) only [go_sem, seval, reduceCtorEq, gg, q1, hf]) | (refine finR (by simp only [go_sem, seval, reduceCtorEq, q1, hf]; exact rfl) ?_; simp only [go_sem, seval, reduceCtorEq, q1, hf]) | refine updL hM ?_ (by omega) | (with_reducible exact fun _ _ => rfl))
      all_goals (first | omega | (simp only [decide_eq_true_eq, decide_eq_false_iff_not] at *; omega) | (simp only [List.length_append, List.length_cons, List.length_nil] <;> omega) | exact one_bv _ | exact one_sv _ | skip)
    · have hf : tText s = .tup [.flat (.string (bs (s1.take n))), .flat (.string (bs (s1.drop n))), .flat (.bool true)] := by rw [tText, hrt]; simp [rTake, hn]
      have q1 : ((n : Int) > s1.length) = False := eq_false (by omega)
      have hs1 : s1.take s1.length = s1 := List.take_length
      repeat' (first | (with_reducible first | refine pa ?_ | refine pb ?_ | refine pc ?_ | refine nxt_n ?_ | refine nxt_e ?_ | refine nxt_r ?_ | refine blk_n ?_ | refine blk_r ?_ | refine blk_hit ?_ | refine blk_miss (by rfl) ?_ | refine pd ?_ | refine pe ?_ | refine pf ?_ | refine pg ?_ | apply And.intro) | (refine hK _ ?_; first | clear hK K hn0 hcl hΘ Θ | clear hK K hΘ Θ) | (with_reducible first | refine cw1 ?_ | refine cw2 ?_ | exact cw3 | exact cw4) | ((with_reducible first | refine cw5 (fun gg => ?_) | refine cw6 (fun gg => ?_) | refine cw7 (fun gg => ?_)); try simp only [gg]) | refine cs1 hG rfl ?_ ?_ | refine cs2 hG rfl ?_ ?_ | ((first | refine kg (hT _ _) rfl hΘ ?_ | refine rga hG (by kernel_rfl) (fun Θ K hΘ hK => ?_) | refine rgb hG (by kernel_rfl) (fun Θ K hΘ hK => ?_) | refine rgc defCl hG (by kernel_rfl) cl0 (by rfl) (by kernel_rfl) (fun Θ K hΘ hcl hn0 hK => ?_) | refine rgd defCl hG (by kernel_rfl) cl0 (by rfl) (by kernel_rfl) (fun Θ K hΘ hcl hn0 hK => ?_)); simp (maxSteps := 2000000) only [go_sem, seval, reduceCtorEq, q1, hf, hs1]) | ((first | refine Post.splitN (fun gg => ?_) (fun gg => ?_) | refine PostB.splitN (fun gg => ?_) (fun gg => ?_) | refine Post.split (fun gg => ?_) (fun gg => ?_) | refine PostB.split (fun gg => ?_) (fun gg => ?_)) <;> simp (maxSteps := 2000000) only [go_sem, seval, reduceCtorEq, gg, q1, hf, hs1]) | (refine finR (by simp only [go_sem, seval, reduceCtorEq, q1, hf, hs1]; exact rfl) ?_; simp only [go_sem, seval, reduceCtorEq, q1, hf, hs1]) | refine updL hM ?_ (by omega) | (with_reducible exact fun _ _ => rfl))
      all_goals (first | omega | (simp only [decide_eq_true_eq, decide_eq_false_iff_not] at *; omega) | (simp only [List.length_append, List.length_cons, List.length_nil] <;> omega) | exact one_bv _ | exact one_sv _ | skip)
  · have hf : tText s = .tup [.flat (.string (bs [])), .flat (.string (bs [])), .flat (.bool false)] := by rw [tText, hrt]; simp [rTake]
    repeat' (first | (with_reducible first | refine pa ?_ | refine pb ?_ | refine pc ?_ | refine nxt_n ?_ | refine nxt_e ?_ | refine nxt_r ?_ | refine blk_n ?_ | refine blk_r ?_ | refine blk_hit ?_ | refine blk_miss (by rfl) ?_ | refine pd ?_ | refine pe ?_ | refine pf ?_ | refine pg ?_ | apply And.intro) | (refine hK _ ?_; first | clear hK K hn0 hcl hΘ Θ | clear hK K hΘ Θ) | (with_reducible first | refine cw1 ?_ | refine cw2 ?_ | exact cw3 | exact cw4) | ((with_reducible first | refine cw5 (fun gg => ?_) | refine cw6 (fun gg => ?_) | refine cw7 (fun gg => ?_)); try simp only [gg]) | refine cs1 hG rfl ?_ ?_ | refine cs2 hG rfl ?_ ?_ | ((first | refine kg (hT _ _) rfl hΘ ?_ | refine rga hG (by kernel_rfl) (fun Θ K hΘ hK => ?_) | refine rgb hG (by kernel_rfl) (fun Θ K hΘ hK => ?_) | refine rgc defCl hG (by kernel_rfl) cl0 (by rfl) (by kernel_rfl) (fun Θ K hΘ hcl hn0 hK => ?_) | refine rgd defCl hG (by kernel_rfl) cl0 (by rfl) (by kernel_rfl) (fun Θ K hΘ hcl hn0 hK => ?_)); simp (maxSteps := 2000000) only [go_sem, seval, reduceCtorEq, hf]) | ((first | refine Post.splitN (fun gg => ?_) (fun gg => ?_) | refine PostB.splitN (fun gg => ?_) (fun gg => ?_) | refine Post.split (fun gg => ?_) (fun gg => ?_) | refine PostB.split (fun gg => ?_) (fun gg => ?_)) <;> simp (maxSteps := 2000000) only [go_sem, seval, reduceCtorEq, gg, hf]) | (refine finR (by simp only [go_sem, seval, reduceCtorEq, hf]; exact rfl) ?_; simp only [go_sem, seval, reduceCtorEq, hf]) | refine updL hM ?_ (by omega) | (with_reducible exact fun _ _ => rfl))
    all_goals (first | omega | (simp only [decide_eq_true_eq, decide_eq_false_iff_not] at *; omega) | (simp only [List.length_append, List.length_cons, List.length_nil] <;> omega) | exact one_bv _ | exact one_sv _ | skip)
theorem tList_low (s : List UInt8) : Low (tList s) := by
  unfold tList
  split
  · exact lowTup (lowC1 (lowSl FlatS.nil) (lowC1 (Low.flat _) (lowC1 (Low.flat _) lowC0)))
  · exact lowTup (lowC1 (lowSl (FlatS.sv _)) (lowC1 (Low.flat _) (lowC1 (Low.flat _) lowC0)))
theorem TakeList_sp (s : List UInt8) (hs : s.length ≤ 4611686018427387904) : Rt 63 [.flat (.string (bs s))] (tList s) := by
  have hrl := rNum_rest s false
  have hlt := rNum_lt s false
  have hst : rStart s false = if 4096 < (rNum s false).1 then ([], true) else (rNum s false).2 := rfl
  have hsp : rList s false = if (rTexts (rNum s false).1 (rStart s false).1 (rStart s false).2).2.2 = true then ([], (rTexts (rNum s false).1 (rStart s false).1 (rStart s false).2).2) else rTexts (rNum s false).1 (rStart s false).1 (rStart s false).2 := rfl
  have hT := TakeNum_sp s hs
  unfold tNum at hT
  generalize hA : rNum s false = A at *
  obtain ⟨n, s1, f1⟩ := A
  generalize rStart s false = B at *
  obtain ⟨s2, f2⟩ := B
  simp only at *
  have hL : (rList s false).2.2 = true → tList s = .tup [.sl false 1 0 [], .flat (.string (bs [])), .flat (.bool false)] := fun h => by rw [tList, if_pos h]
  intro M mn
  refine fnLS (C := kc 45 [38] []) (rs := [.tmp 2, .tmp 3, .tmp 4]) envOk Try.func63 (by kernel_rfl) rfl rfl rfl rfl rfl rfl (tList_low s) ?_
  intro E hG hM
  cases f1
  · by_cases h4 : 4096 < n
    · rw [if_pos h4] at hst
      simp only [Prod.mk.injEq] at hst
      obtain ⟨rfl, rfl⟩ := hst
      have hf := hL (by rw [hsp, rTexts_stop]; rfl)
      have q1 : ((n : Int) > 4096) = True := eq_true (by omega)
      repeat' (first | (with_reducible first | refine pa ?_ | refine pb ?_ | refine pc ?_ | refine nxt_n ?_ | refine nxt_e ?_ | refine nxt_r ?_ | refine blk_n ?_ | refine blk_r ?_ | refine blk_hit ?_ | refine blk_miss (by rfl) ?_ | refine pd ?_ | refine pe ?_ | refine pf ?_ | refine pg ?_ | apply And.intro) | (refine hK _ ?_; clear hK K hΘ Θ) | (with_reducible first | refine cw1 ?_ | refine cw2 ?_ | exact cw3 | exact cw4) | ((with_reducible first | refine cw5 (fun gg => ?_) | refine cw6 (fun gg => ?_) | refine cw7 (fun gg => ?_)); try simp only [gg]) | refine cs1 hG rfl ?_ ?_ | refine cs2 hG rfl ?_ ?_ | ((first | refine kg (hT _ _) rfl hΘ ?_ | refine rga hG (by kernel_rfl) (fun Θ K hΘ hK => ?_) | refine rgb hG (by kernel_rfl) (fun Θ K hΘ hK => ?_)); simp (maxSteps := 2000000) only [go_sem, seval, reduceCtorEq, List.append_eq, q1, hf]) | ((first | refine Post.splitN (fun gg => ?_) (fun gg => ?_) | refine Post.split (fun gg => ?_) (fun gg => ?_)) <;> simp (maxSteps := 2000000) only [go_sem, seval, reduceCtorEq, List.append_eq, gg, q1, hf]) | (refine finR (by simp only [go_sem, seval, reduceCtorEq, List.append_eq, q1, hf]; exact rfl) ?_; simp only [go_sem, seval, reduceCtorEq, List.append_eq, q1, hf]) | refine updL hM ?_ (by omega) | (with_reducible exact fun _ _ => rfl))
      all_goals (first | omega | (simp only [decide_eq_true_eq, decide_eq_false_iff_not] at *; omega) | (simp only [List.length_append, List.length_cons, List.length_nil] <;> omega) | exact one_bv _ | exact one_sv _ | skip)
    · rw [if_neg h4] at hst
      simp only [Prod.mk.injEq] at hst
      obtain ⟨rfl, rfl⟩ := hst
      have q1 : ((n : Int) > 4096) = False := eq_false (by omega)
      repeat' (first | (with_reducible first | refine pa ?_ | refine pb ?_ | refine pc ?_ | refine nxt_n ?_ | refine nxt_e ?_ | refine nxt_r ?_ | refine blk_n ?_ | refine blk_r ?_ | refine blk_hit ?_ | refine blk_miss (by rfl) ?_ | refine pd ?_ | refine pe ?_ | refine pf ?_ | refine pg ?_ | apply And.intro) | (refine hK _ ?_; clear hK K hΘ Θ) | (with_reducible first | refine cw1 ?_ | refine cw2 ?_ | exact cw3 | exact cw4) | ((with_reducible first | refine cw5 (fun gg => ?_) | refine cw6 (fun gg => ?_) | refine cw7 (fun gg => ?_)); try simp only [gg]) | refine cs1 hG rfl ?_ ?_ | refine cs2 hG rfl ?_ ?_ | ((first | refine kg (hT _ _) rfl hΘ ?_ | refine rga hG (by kernel_rfl) (fun Θ K hΘ hK => ?_) | refine rgb hG (by kernel_rfl) (fun Θ K hΘ hK => ?_)); simp (maxSteps := 2000000) only [go_sem, seval, reduceCtorEq, List.append_eq, q1]) | ((first | refine Post.splitN (fun gg => ?_) (fun gg => ?_) | refine Post.split (fun gg => ?_) (fun gg => ?_)) <;> simp (maxSteps := 2000000) only [go_sem, seval, reduceCtorEq, List.append_eq, gg, q1]) | (refine finR (by simp only [go_sem, seval, reduceCtorEq, List.append_eq, q1]; exact rfl) ?_; simp only [go_sem, seval, reduceCtorEq, List.append_eq, q1]) | refine updL hM ?_ (by omega) | (with_reducible exact fun _ _ => rfl))
      all_goals (first | omega | (simp only [decide_eq_true_eq, decide_eq_false_iff_not] at *; omega) | (simp only [List.length_append, List.length_cons, List.length_nil] <;> omega) | exact one_bv _ | exact one_sv _ | skip)
      refine WC.loopA (fun q : Nat × List (List UInt8) × List UInt8 => ⟨[(9, .flat (.int .i64 q.1)), (8, .sl true 1 q.1 (sv q.2.1)), (6, .flat (.string (bs q.2.2))), (5, .flat (.int .i64 n))], M, mn⟩) (fun q => n - q.1) (fun q => q.1 ≤ n ∧ q.2.1.length = q.1 ∧ q.2.2.length ≤ s.length ∧ rTexts n s2 false = (q.2.1 ++ (rTexts (n - q.1) q.2.2 false).1, (rTexts (n - q.1) q.2.2 false).2)) (0, [], s2) ⟨by simp only; omega, rfl, hrl, by simp⟩ (sbs (by simp (maxSteps := 2000000) only [go_sem, seval, reduceCtorEq, List.append_eq, sv, List.map_nil]) rfl rfl) ?_
      rintro ⟨i, out, s'⟩ ⟨hi, hol, hsl, hsq⟩
      simp only at hi hol hsl hsq ⊢
      by_cases h : i < n
      · have g1 : ((i : Int) < (n : Int)) = True := eq_true (by omega)
        have v1 := wi1 (n := i) (by omega)
        have hrest := rText_rest s' false
        have hT2 := TakeText_sp s' (by omega)
        unfold tText at hT2
        rw [show n - i = (n - (i + 1)) + 1 by omega, rTexts] at hsq
        simp only [Bool.false_eq_true, if_false] at hsq
        generalize hX : rText s' false = X at *
        obtain ⟨u, v, w⟩ := X
        simp only at *
        cases w
        · skip
          repeat' (first | (with_reducible first | refine pa ?_ | refine pb ?_ | refine pc ?_ | refine nxt_n ?_ | refine nxt_e ?_ | refine nxt_r ?_ | refine blk_n ?_ | refine blk_r ?_ | refine blk_hit ?_ | refine blk_miss (by rfl) ?_ | refine pd ?_ | refine pe ?_ | refine pf ?_ | refine pg ?_ | apply And.intro) | (refine hK _ ?_; clear hK K hΘ Θ) | (with_reducible first | refine cw1 ?_ | refine cw2 ?_ | exact cw3 | exact cw4) | ((with_reducible first | refine cw5 (fun gg => ?_) | refine cw6 (fun gg => ?_) | refine cw7 (fun gg => ?_)); try simp only [gg]) | refine cs1 hG rfl ?_ ?_ | refine cs2 hG rfl ?_ ?_ | ((first | refine kg (hT2 _ _) rfl hΘ ?_ | refine rga hG (by kernel_rfl) (fun Θ K hΘ hK => ?_) | refine rgb hG (by kernel_rfl) (fun Θ K hΘ hK => ?_)); simp (maxSteps := 2000000) only [go_sem, seval, reduceCtorEq, List.append_eq, g1, v1]) | ((first | refine Post.splitN (fun gg => ?_) (fun gg => ?_) | refine Post.split (fun gg => ?_) (fun gg => ?_)) <;> simp (maxSteps := 2000000) only [go_sem, seval, reduceCtorEq, List.append_eq, gg, g1, v1]) | (refine finR (by simp only [go_sem, seval, reduceCtorEq, List.append_eq, g1, v1]; exact rfl) ?_; simp only [go_sem, seval, reduceCtorEq, List.append_eq, g1, v1]) | refine updL hM ?_ (by omega) | (with_reducible exact fun _ _ => rfl))
          all_goals (first | omega | (simp only [decide_eq_true_eq, decide_eq_false_iff_not] at *; omega) | (simp only [List.length_append, List.length_cons, List.length_nil] <;> omega) | exact one_bv _ | exact one_sv _ | skip)
          refine ⟨(i + 1, out ++ [u], v), ⟨by simp only; omega, by simp [hol], by simp only; omega, ?_⟩, by simp only; omega, (sbs (by simp (maxSteps := 2000000) only [go_sem, seval, reduceCtorEq, List.append_eq]) rfl rfl)⟩
          simp only
          rw [hsq]; simp
        · have hf := hL (by rw [hsp, hsq, rTexts_stop]; rfl)
          repeat' (first | (with_reducible first | refine pa ?_ | refine pb ?_ | refine pc ?_ | refine nxt_n ?_ | refine nxt_e ?_ | refine nxt_r ?_ | refine blk_n ?_ | refine blk_r ?_ | refine blk_hit ?_ | refine blk_miss (by rfl) ?_ | refine pd ?_ | refine pe ?_ | refine pf ?_ | refine pg ?_ | apply And.intro) | (refine hK _ ?_; clear hK K hΘ Θ) | (with_reducible first | refine cw1 ?_ | refine cw2 ?_ | exact cw3 | exact cw4) | ((with_reducible first | refine cw5 (fun gg => ?_) | refine cw6 (fun gg => ?_) | refine cw7 (fun gg => ?_)); try simp only [gg]) | refine cs1 hG rfl ?_ ?_ | refine cs2 hG rfl ?_ ?_ | ((first | refine kg (hT2 _ _) rfl hΘ ?_ | refine rga hG (by kernel_rfl) (fun Θ K hΘ hK => ?_) | refine rgb hG (by kernel_rfl) (fun Θ K hΘ hK => ?_)); simp (maxSteps := 2000000) only [go_sem, seval, reduceCtorEq, List.append_eq, g1, v1, hf]) | ((first | refine Post.splitN (fun gg => ?_) (fun gg => ?_) | refine Post.split (fun gg => ?_) (fun gg => ?_)) <;> simp (maxSteps := 2000000) only [go_sem, seval, reduceCtorEq, List.append_eq, gg, g1, v1, hf]) | (refine finR (by simp only [go_sem, seval, reduceCtorEq, List.append_eq, g1, v1, hf]; exact rfl) ?_; simp only [go_sem, seval, reduceCtorEq, List.append_eq, g1, v1, hf]) | refine updL hM ?_ (by omega) | (with_reducible exact fun _ _ => rfl))
          all_goals (first | omega | (simp only [decide_eq_true_eq, decide_eq_false_iff_not] at *; omega) | (simp only [List.length_append, List.length_cons, List.length_nil] <;> omega) | exact one_bv _ | exact one_sv _ | skip)
      · have g1 : ((i : Int) < (n : Int)) = False := eq_false (by omega)
        rw [show n - i = 0 by omega, rTexts] at hsq
        simp only [List.append_nil] at hsq
        have hl : rList s false = (out, (s', false)) := by rw [hsp, hsq]; simp
        have hf : tList s = .tup [.sl false 1 i (sv out), .flat (.string (bs s')), .flat (.bool true)] := by rw [tList, hl]; simp [hol]
        repeat' (first | (with_reducible first | refine pa ?_ | refine pb ?_ | refine pc ?_ | refine nxt_n ?_ | refine nxt_e ?_ | refine nxt_r ?_ | refine blk_n ?_ | refine blk_r ?_ | refine blk_hit ?_ | refine blk_miss (by rfl) ?_ | refine pd ?_ | refine pe ?_ | refine pf ?_ | refine pg ?_ | apply And.intro) | (refine hK _ ?_; clear hK K hΘ Θ) | (with_reducible first | refine cw1 ?_ | refine cw2 ?_ | exact cw3 | exact cw4) | ((with_reducible first | refine cw5 (fun gg => ?_) | refine cw6 (fun gg => ?_) | refine cw7 (fun gg => ?_)); try simp only [gg]) | refine cs1 hG rfl ?_ ?_ | refine cs2 hG rfl ?_ ?_ | ((first | refine rga hG (by kernel_rfl) (fun Θ K hΘ hK => ?_) | refine rgb hG (by kernel_rfl) (fun Θ K hΘ hK => ?_)); simp (maxSteps := 2000000) only [go_sem, seval, reduceCtorEq, List.append_eq, g1, hf]) | ((first | refine Post.splitN (fun gg => ?_) (fun gg => ?_) | refine Post.split (fun gg => ?_) (fun gg => ?_)) <;> simp (maxSteps := 2000000) only [go_sem, seval, reduceCtorEq, List.append_eq, gg, g1, hf]) | (refine finR (by simp only [go_sem, seval, reduceCtorEq, List.append_eq, g1, hf]; exact rfl) ?_; simp only [go_sem, seval, reduceCtorEq, List.append_eq, g1, hf]) | refine updL hM ?_ (by omega) | (with_reducible exact fun _ _ => rfl))
        all_goals (first | omega | (simp only [decide_eq_true_eq, decide_eq_false_iff_not] at *; omega) | (simp only [List.length_append, List.length_cons, List.length_nil] <;> omega) | exact one_bv _ | exact one_sv _ | skip)
  · have hf2 : f2 = true := by
      split at hst <;> (simp only [Prod.mk.injEq] at hst; exact hst.2)
    subst hf2
    have hf := hL (by rw [hsp, rTexts_stop]; rfl)
    repeat' (first | (with_reducible first | refine pa ?_ | refine pb ?_ | refine pc ?_ | refine nxt_n ?_ | refine nxt_e ?_ | refine nxt_r ?_ | refine blk_n ?_ | refine blk_r ?_ | refine blk_hit ?_ | refine blk_miss (by rfl) ?_ | refine pd ?_ | refine pe ?_ | refine pf ?_ | refine pg ?_ | apply And.intro) | (refine hK _ ?_; clear hK K hΘ Θ) | (with_reducible first | refine cw1 ?_ | refine cw2 ?_ | exact cw3 | exact cw4) | ((with_reducible first | refine cw5 (fun gg => ?_) | refine cw6 (fun gg => ?_) | refine cw7 (fun gg => ?_)); try simp only [gg]) | refine cs1 hG rfl ?_ ?_ | refine cs2 hG rfl ?_ ?_ | ((first | refine kg (hT _ _) rfl hΘ ?_ | refine rga hG (by kernel_rfl) (fun Θ K hΘ hK => ?_) | refine rgb hG (by kernel_rfl) (fun Θ K hΘ hK => ?_)); simp (maxSteps := 2000000) only [go_sem, seval, reduceCtorEq, List.append_eq, hf]) | ((first | refine Post.splitN (fun gg => ?_) (fun gg => ?_) | refine Post.split (fun gg => ?_) (fun gg => ?_)) <;> simp (maxSteps := 2000000) only [go_sem, seval, reduceCtorEq, List.append_eq, gg, hf]) | (refine finR (by simp only [go_sem, seval, reduceCtorEq, List.append_eq, hf]; exact rfl) ?_; simp only [go_sem, seval, reduceCtorEq, List.append_eq, hf]) | refine updL hM ?_ (by omega) | (with_reducible exact fun _ _ => rfl))
    all_goals (first | omega | (simp only [decide_eq_true_eq, decide_eq_false_iff_not] at *; omega) | (simp only [List.length_append, List.length_cons, List.length_nil] <;> omega) | exact one_bv _ | exact one_sv _ | skip)
theorem RSplit_sp (s : List UInt8) (hs : s.length ≤ 4611686018427387904) : Rt 43 [.flat (.string (bs s))] (.tup [.sl false 1 (sR s).length (sv (sR s)), .flat (.bool (decide (sE s = 0)))]) := by
  intro M mn
  refine fnLS (C := kc 23 [] []) (rs := [.tmp 2, .tmp 3]) envOk Try.func43 (by kernel_rfl) rfl rfl rfl rfl rfl rfl (lowTup (lowC1 (lowSl (FlatS.sv _)) (lowC1 (Low.flat _) lowC0))) ?_
  intro E hG hM
  by_cases h : 262144 < s.length
  · have q1 : ((s.length : Int) > 262144) = True := eq_true (by omega)
    have e1 : sE s = 4 := by unfold sE; rw [sL_long h]; rfl
    have e2 : sR s = [] := by unfold sR; rw [if_neg (by rw [e1]; omega)]
    have e0 : sv [] = [] := rfl
    repeat' (first | (with_reducible first | refine pa ?_ | refine pb ?_ | refine pc ?_ | refine nxt_n ?_ | refine nxt_e ?_ | refine nxt_r ?_ | refine blk_n ?_ | refine blk_r ?_ | refine blk_hit ?_ | refine blk_miss (by rfl) ?_ | refine pd ?_ | refine pe ?_ | refine pf ?_ | refine pg ?_ | apply And.intro) | (refine hK _ ?_; clear hK K hΘ Θ) | (with_reducible first | refine cw1 ?_ | refine cw2 ?_ | exact cw3 | exact cw4) | ((with_reducible first | refine cw5 (fun gg => ?_) | refine cw6 (fun gg => ?_) | refine cw7 (fun gg => ?_)); try simp only [gg]) | refine cs1 hG rfl ?_ ?_ | refine cs2 hG rfl ?_ ?_ | ((first | refine rga hG (by kernel_rfl) (fun Θ K hΘ hK => ?_) | refine rgb hG (by kernel_rfl) (fun Θ K hΘ hK => ?_)); simp (maxSteps := 2000000) only [go_sem, seval, reduceCtorEq, q1, e1, e2, e0]) | ((first | refine Post.splitN (fun gg => ?_) (fun gg => ?_) | refine Post.split (fun gg => ?_) (fun gg => ?_)) <;> simp (maxSteps := 2000000) only [go_sem, seval, reduceCtorEq, gg, q1, e1, e2, e0]) | (refine finR (by simp only [go_sem, seval, reduceCtorEq, q1, e1, e2, e0]; exact rfl) ?_; simp only [go_sem, seval, reduceCtorEq, q1, e1, e2, e0]) | refine updL hM ?_ (by omega) | (with_reducible exact fun _ _ => rfl))
    all_goals (first | omega | (simp only [decide_eq_true_eq, decide_eq_false_iff_not] at *; omega) | (simp only [List.length_append, List.length_cons, List.length_nil] <;> omega) | exact one_bv _ | exact one_sv _ | skip)
  · have q1 : ((s.length : Int) > 262144) = False := eq_false (by omega)
    have hl := sL_short (s := s) (by omega)
    have hT := TakeList_sp s hs
    unfold tList at hT
    rw [← hl] at hT
    have hE : sE s = rEnd (sL s).2.1 (sL s).2.2 := rfl
    have hR : sR s = if sE s = 0 then (sL s).1 else [] := rfl
    generalize sL s = L at *
    obtain ⟨l, r, f⟩ := L
    simp only at *
    have e0 : sv [] = [] := rfl
    cases f
    · rw [if_neg (by simp)] at hT
      by_cases hr : r = []
      · have e1 : sE s = 0 := by rw [hE, hr]; rfl
        have e2 : sR s = l := by rw [hR, if_pos e1]
        have e3 : (r = []) = True := eq_true hr
        repeat' (first | (with_reducible first | refine pa ?_ | refine pb ?_ | refine pc ?_ | refine nxt_n ?_ | refine nxt_e ?_ | refine nxt_r ?_ | refine blk_n ?_ | refine blk_r ?_ | refine blk_hit ?_ | refine blk_miss (by rfl) ?_ | refine pd ?_ | refine pe ?_ | refine pf ?_ | refine pg ?_ | apply And.intro) | (refine hK _ ?_; clear hK K hΘ Θ) | (with_reducible first | refine cw1 ?_ | refine cw2 ?_ | exact cw3 | exact cw4) | ((with_reducible first | refine cw5 (fun gg => ?_) | refine cw6 (fun gg => ?_) | refine cw7 (fun gg => ?_)); try simp only [gg]) | refine cs1 hG rfl ?_ ?_ | refine cs2 hG rfl ?_ ?_ | ((first | refine kg (hT _ _) rfl hΘ ?_ | refine rga hG (by kernel_rfl) (fun Θ K hΘ hK => ?_) | refine rgb hG (by kernel_rfl) (fun Θ K hΘ hK => ?_)); simp (maxSteps := 2000000) only [go_sem, seval, reduceCtorEq, q1, e1, e2, e3]) | ((first | refine Post.splitN (fun gg => ?_) (fun gg => ?_) | refine Post.split (fun gg => ?_) (fun gg => ?_)) <;> simp (maxSteps := 2000000) only [go_sem, seval, reduceCtorEq, gg, q1, e1, e2, e3]) | (refine finR (by simp only [go_sem, seval, reduceCtorEq, q1, e1, e2, e3]; exact rfl) ?_; simp only [go_sem, seval, reduceCtorEq, q1, e1, e2, e3]) | refine updL hM ?_ (by omega) | (with_reducible exact fun _ _ => rfl))
        all_goals (first | omega | (simp only [decide_eq_true_eq, decide_eq_false_iff_not] at *; omega) | (simp only [List.length_append, List.length_cons, List.length_nil] <;> omega) | exact one_bv _ | exact one_sv _ | skip)
      · have e1 : sE s = 4 := by rw [hE]; simp [rEnd, hr]
        have e2 : sR s = [] := by rw [hR, if_neg (by rw [e1]; omega)]
        have e3 : (r = []) = False := eq_false hr
        repeat' (first | (with_reducible first | refine pa ?_ | refine pb ?_ | refine pc ?_ | refine nxt_n ?_ | refine nxt_e ?_ | refine nxt_r ?_ | refine blk_n ?_ | refine blk_r ?_ | refine blk_hit ?_ | refine blk_miss (by rfl) ?_ | refine pd ?_ | refine pe ?_ | refine pf ?_ | refine pg ?_ | apply And.intro) | (refine hK _ ?_; clear hK K hΘ Θ) | (with_reducible first | refine cw1 ?_ | refine cw2 ?_ | exact cw3 | exact cw4) | ((with_reducible first | refine cw5 (fun gg => ?_) | refine cw6 (fun gg => ?_) | refine cw7 (fun gg => ?_)); try simp only [gg]) | refine cs1 hG rfl ?_ ?_ | refine cs2 hG rfl ?_ ?_ | ((first | refine kg (hT _ _) rfl hΘ ?_ | refine rga hG (by kernel_rfl) (fun Θ K hΘ hK => ?_) | refine rgb hG (by kernel_rfl) (fun Θ K hΘ hK => ?_)); simp (maxSteps := 2000000) only [go_sem, seval, reduceCtorEq, q1, e1, e2, e3, e0]) | ((first | refine Post.splitN (fun gg => ?_) (fun gg => ?_) | refine Post.split (fun gg => ?_) (fun gg => ?_)) <;> simp (maxSteps := 2000000) only [go_sem, seval, reduceCtorEq, gg, q1, e1, e2, e3, e0]) | (refine finR (by simp only [go_sem, seval, reduceCtorEq, q1, e1, e2, e3, e0]; exact rfl) ?_; simp only [go_sem, seval, reduceCtorEq, q1, e1, e2, e3, e0]) | refine updL hM ?_ (by omega) | (with_reducible exact fun _ _ => rfl))
        all_goals (first | omega | (simp only [decide_eq_true_eq, decide_eq_false_iff_not] at *; omega) | (simp only [List.length_append, List.length_cons, List.length_nil] <;> omega) | exact one_bv _ | exact one_sv _ | skip)
    · rw [if_pos rfl] at hT
      have e1 : sE s = 4 := by rw [hE]; simp [rEnd]
      have e2 : sR s = [] := by rw [hR, if_neg (by rw [e1]; omega)]
      repeat' (first | (with_reducible first | refine pa ?_ | refine pb ?_ | refine pc ?_ | refine nxt_n ?_ | refine nxt_e ?_ | refine nxt_r ?_ | refine blk_n ?_ | refine blk_r ?_ | refine blk_hit ?_ | refine blk_miss (by rfl) ?_ | refine pd ?_ | refine pe ?_ | refine pf ?_ | refine pg ?_ | apply And.intro) | (refine hK _ ?_; clear hK K hΘ Θ) | (with_reducible first | refine cw1 ?_ | refine cw2 ?_ | exact cw3 | exact cw4) | ((with_reducible first | refine cw5 (fun gg => ?_) | refine cw6 (fun gg => ?_) | refine cw7 (fun gg => ?_)); try simp only [gg]) | refine cs1 hG rfl ?_ ?_ | refine cs2 hG rfl ?_ ?_ | ((first | refine kg (hT _ _) rfl hΘ ?_ | refine rga hG (by kernel_rfl) (fun Θ K hΘ hK => ?_) | refine rgb hG (by kernel_rfl) (fun Θ K hΘ hK => ?_)); simp (maxSteps := 2000000) only [go_sem, seval, reduceCtorEq, q1, e1, e2, e0]) | ((first | refine Post.splitN (fun gg => ?_) (fun gg => ?_) | refine Post.split (fun gg => ?_) (fun gg => ?_)) <;> simp (maxSteps := 2000000) only [go_sem, seval, reduceCtorEq, gg, q1, e1, e2, e0]) | (refine finR (by simp only [go_sem, seval, reduceCtorEq, q1, e1, e2, e0]; exact rfl) ?_; simp only [go_sem, seval, reduceCtorEq, q1, e1, e2, e0]) | refine updL hM ?_ (by omega) | (with_reducible exact fun _ _ => rfl))
      all_goals (first | omega | (simp only [decide_eq_true_eq, decide_eq_false_iff_not] at *; omega) | (simp only [List.length_append, List.length_cons, List.length_nil] <;> omega) | exact one_bv _ | exact one_sv _ | skip)
end Go.VL
