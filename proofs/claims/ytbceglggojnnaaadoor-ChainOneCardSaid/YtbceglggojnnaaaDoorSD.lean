/- Part SD of the proof: made for this claim. -/
import Derived.Test.YtbceglggojnnaaaDoorSC
set_option linter.unusedVariables false
set_option linter.unusedSimpArgs false
set_option maxRecDepth 100000
set_option maxHeartbeats 8000000
open Go.RowKit
namespace Go.VL
open Go.Proofs
theorem tText_low (s : List UInt8) : Low (tText s) := lowTup (lowC1 (Low.flat _) (lowC1 (Low.flat _) (lowC1 (Low.flat _) lowC0)))
theorem TakeText_sp (s : List UInt8) (hs : s.length ≤ 4611686018427387904) : Rt 126 [.flat (.string (bs s))] (tText s) := by
  have hrt : rText s false = rTake (rNum s false).1 (rNum s false).2.1 (rNum s false).2.2 := rfl
  have hrl := rNum_rest s false
  have hlt := rNum_lt s false
  have hT := TakeNum_sp s hs
  unfold tNum at hT
  generalize hA : rNum s false = A at *
  obtain ⟨n, s1, f1⟩ := A
  simp only at *
  intro M mn
  refine fnL (C := kc 28 [] []) (rs := [.tmp 2, .tmp 3, .tmp 4]) envOk Tryd.func126 (by kernel_rfl) rfl rfl rfl rfl rfl rfl (tText_low s) ?_
  intro E hG hM
  cases f1
  · by_cases hn : s1.length < n
    · have hf : tText s = .tup [.flat (.string (bs [])), .flat (.string (bs [])), .flat (.bool false)] := by rw [tText, hrt]; simp [rTake, hn]
      have q1 : ((n : Int) > s1.length) = True := eq_true (by omega)
      repeat' (first | (with_reducible first | refine pa ?_ | refine pb ?_ | refine pc ?_ | refine nxt_n ?_ | refine nxt_e ?_ | refine nxt_r ?_ | refine blk_n ?_ | refine blk_r ?_ | refine blk_hit ?_ | refine blk_miss (by rfl) ?_ | refine pd ?_ | refine pe ?_ | refine pf ?_ | refine pg ?_ | apply And.intro) | (refine hK _ ?_; first | clear hK K hn0 hcl hΘ Θ | clear hK K hΘ Θ) | (with_reducible first | refine cw1 ?_ | refine cw2 ?_ | exact cw3 | exact cw4) | ((with_reducible first | refine cw5 (fun gg => ?_) | refine cw6 (fun gg => ?_) | refine cw7 (fun gg => ?_)); try simp only [gg]) | refine cs1 hG rfl ?_ ?_ | refine cs2 hG rfl ?_ ?_ | ((first | refine kg (hT _ _) rfl hΘ ?_ | refine rga hG (by kernel_rfl) (fun Θ K hΘ hK => ?_) | refine rgb hG (by kernel_rfl) (fun Θ K hΘ hK => ?_) | refine rgc defCl hG (by kernel_rfl) cl0 (by rfl) (by kernel_rfl) (fun Θ K hΘ hcl hn0 hK => ?_) | refine rgd defCl hG (by kernel_rfl) cl0 (by rfl) (by kernel_rfl) (fun Θ K hΘ hcl hn0 hK => ?_)); simp (maxSteps := 2000000) only [go_sem, seval, reduceCtorEq, q1, hf]) | ((first | refine Post.splitN (fun gg => ?_) (fun gg => ?_) | refine PostB.splitN (fun gg => ?_) (fun gg => ?_) | refine Post.split (fun gg => ?_) (fun gg => ?_) | refine PostB.split (fun gg => ?_) (fun gg => ?_)) <;> simp (maxSteps := 2000000) only [go_sem, seval, reduceCtorEq, gg, q1, hf]) | (refine finR (by simp only [go_sem, seval, reduceCtorEq, q1, hf]; exact rfl) ?_; simp only [go_sem, seval, reduceCtorEq, q1, hf]) | refine updL hM ?_ (by omega) | (with_reducible exact fun _ _ => rfl))
      all_goals (first | omega | (simp only [decide_eq_true_eq, decide_eq_false_iff_not] at *; omega) | (simp only [List.length_append, List.length_cons, List.length_nil] <;> omega) | exact one_bv _ | exact one_sv _ | skip)
    · have hf : tText s = .tup [.flat (.string (bs (s1.take n))), .flat (.string (bs (s1.drop n))), .flat (.bool true)] := by rw [tText, hrt]; simp [rTake, hn]
      have q1 : ((n : Int) > s1.length) = False := eq_false (by omega)
      have hs1 : s1.take s1.length = s1 := List.take_length
      repeat' (first | (with_reducible first | refine pa ?_ | refine pb ?_ | refine pc ?_ | refine nxt_n ?_ | refine nxt_e ?_ | refine nxt_r ?_ | refine blk_n ?_ | refine blk_r ?_ | refine blk_hit ?_ | refine blk_miss (by rfl) ?_ | refine pd ?_ | refine pe ?_ | refine pf ?_ | refine pg ?_ | apply And.intro) | (refine hK _ ?_; first | clear hK K hn0 hcl hΘ Θ | clear hK K hΘ Θ) | (with_reducible first | refine cw1 ?_ | refine cw2 ?_ | exact cw3 | exact cw4) | ((with_reducible first | refine cw5 (fun gg => ?_) | refine cw6 (fun gg => ?_) | refine cw7 (fun gg => ?_)); try simp only [gg]) | refine cs1 hG rfl ?_ ?_ | refine cs2 hG rfl ?_ ?_ | ((first | refine kg (hT _ _) rfl hΘ ?_ | refine rga hG (by kernel_rfl) (fun Θ K hΘ hK => ?_) | refine rgb hG (by kernel_rfl) (fun Θ K hΘ hK => ?_) | refine rgc defCl hG (by kernel_rfl) cl0 (by rfl) (by kernel_rfl) (fun Θ K hΘ hcl hn0 hK => ?_) | refine rgd defCl hG (by kernel_rfl) cl0 (by rfl) (by kernel_rfl) (fun Θ K hΘ hcl hn0 hK => ?_)); simp (maxSteps := 2000000) only [go_sem, seval, reduceCtorEq, q1, hf, hs1]) | ((first | refine Post.splitN (fun gg => ?_) (fun gg => ?_) | refine PostB.splitN (fun gg => ?_) (fun gg => ?_) | refine Post.split (fun gg => ?_) (fun gg => ?_) | refine PostB.split (fun gg => ?_) (fun gg => ?_)) <;> simp (maxSteps := 2000000) only [go_sem, seval, reduceCtorEq, gg, q1, hf, hs1]) | (refine finR (by simp only [go_sem, seval, reduceCtorEq, q1, hf, hs1]; exact rfl) ?_; simp only [go_sem, seval, reduceCtorEq, q1, hf, hs1]) | refine updL hM ?_ (by omega) | (with_reducible exact fun _ _ => rfl))
      all_goals (first | omega | (simp only [decide_eq_true_eq, decide_eq_false_iff_not] at *; omega) | (simp only [List.length_append, List.length_cons, List.length_nil] <;> omega) | exact one_bv _ | exact one_sv _ | skip)
  · have hf : tText s = .tup [.flat (.string (bs [])), .flat (.string (bs [])), .flat (.bool false)] := by rw [tText, hrt]; simp [rTake]
    repeat' (first | (with_reducible first | refine pa ?_ | refine pb ?_ | refine pc ?_ | refine nxt_n ?_ | refine nxt_e ?_ | refine nxt_r ?_ | refine blk_n ?_ | refine blk_r ?_ | refine blk_hit ?_ | refine blk_miss (by rfl) ?_ | refine pd ?_ | refine pe ?_ | refine pf ?_ | refine pg ?_ | apply And.intro) | (refine hK _ ?_; first | clear hK K hn0 hcl hΘ Θ | clear hK K hΘ Θ) | (with_reducible first | refine cw1 ?_ | refine cw2 ?_ | exact cw3 | exact cw4) | ((with_reducible first | refine cw5 (fun gg => ?_) | refine cw6 (fun gg => ?_) | refine cw7 (fun gg => ?_)); try simp only [gg]) | refine cs1 hG rfl ?_ ?_ | refine cs2 hG rfl ?_ ?_ | ((first | refine kg (hT _ _) rfl hΘ ?_ | refine rga hG (by kernel_rfl) (fun Θ K hΘ hK => ?_) | refine rgb hG (by kernel_rfl) (fun Θ K hΘ hK => ?_) | refine rgc defCl hG (by kernel_rfl) cl0 (by rfl) (by kernel_rfl) (fun Θ K hΘ hcl hn0 hK => ?_) | refine rgd defCl hG (by kernel_rfl) cl0 (by rfl) (by kernel_rfl) (fun Θ K hΘ hcl hn0 hK => ?_)); simp (maxSteps := 2000000) only [go_sem, seval, reduceCtorEq, hf]) | ((first | refine Post.splitN (fun gg => ?_) (fun gg => ?_) | refine PostB.splitN (fun gg => ?_) (fun gg => ?_) | refine Post.split (fun gg => ?_) (fun gg => ?_) | refine PostB.split (fun gg => ?_) (fun gg => ?_)) <;> simp (maxSteps := 2000000) only [go_sem, seval, reduceCtorEq, gg, hf]) | (refine finR (by simp only [go_sem, seval, reduceCtorEq, hf]; exact rfl) ?_; simp only [go_sem, seval, reduceCtorEq, hf]) | refine updL hM ?_ (by omega) | (with_reducible exact fun _ _ => rfl))
    all_goals (first | omega | (simp only [decide_eq_true_eq, decide_eq_false_iff_not] at *; omega) | (simp only [List.length_append, List.length_cons, List.length_nil] <;> omega) | exact one_bv _ | exact one_sv _ | skip)
theorem tList_low (s : List UInt8) : Low (tList s) := by
  unfold tList
  split
  · exact lowTup (lowC1 (lowSl FlatS.nil) (lowC1 (Low.flat _) (lowC1 (Low.flat _) lowC0)))
  · exact lowTup (lowC1 (lowSl (FlatS.sv _)) (lowC1 (Low.flat _) (lowC1 (Low.flat _) lowC0)))
theorem TakeList_sp (s : List UInt8) (hs : s.length ≤ 4611686018427387904) : Rt 116 [.flat (.string (bs s))] (tList s) := by
  have hrl := rNum_rest s false
  have hlt := rNum_lt s false
  have hst : rStart s false = if 4096 < (rNum s false).1 then ([], true) else (rNum s false).2 := rfl
  have hsp : rList s false = if (rTexts (rNum s false).1 (rStart s false).1 (rStart s false).2).2.2 = true then ([], (rTexts (rNum s false).1 (rStart s false).1 (rStart s false).2).2) else rTexts (rNum s false).1 (rStart s false).1 (rStart s false).2 := rfl
  have hT := TakeNum_sp s hs
  unfold tNum at hT
  generalize hA : rNum s false = A at *
  obtain ⟨n, s1, f1⟩ := A
  generalize rStart s false = B at *
  obtain ⟨s2, f2⟩ := B
  simp only at *
  have hL : (rList s false).2.2 = true → tList s = .tup [.sl false 1 0 [], .flat (.string (bs [])), .flat (.bool false)] := fun h => by rw [tList, if_pos h]
  intro M mn
  refine fnLS (C := kc 45 [38] []) (rs := [.tmp 2, .tmp 3, .tmp 4]) envOk Tryd.func116 (by kernel_rfl) rfl rfl rfl rfl rfl rfl (tList_low s) ?_
  intro E hG hM
  cases f1
  · by_cases h4 : 4096 < n
    · rw [if_pos h4] at hst
      simp only [Prod.mk.injEq] at hst
      obtain ⟨rfl, rfl⟩ := hst
      have hf := hL (by rw [hsp, rTexts_stop]; rfl)
      have q1 : ((n : Int) > 4096) = True := eq_true (by omega)
      repeat' (first | (with_reducible first | refine pa ?_ | refine pb ?_ | refine pc ?_ | refine nxt_n ?_ | refine nxt_e ?_ | refine nxt_r ?_ | refine blk_n ?_ | refine blk_r ?_ | refine blk_hit ?_ | refine blk_miss (by rfl) ?_ | refine pd ?_ | refine pe ?_ | refine pf ?_ | refine pg ?_ | apply And.intro) | (refine hK _ ?_; clear hK K hΘ Θ) | (with_reducible first | refine cw1 ?_ | refine cw2 ?_ | exact cw3 | exact cw4) | ((with_reducible first | refine cw5 (fun gg => ?_) | refine cw6 (fun gg => ?_) | refine cw7 (fun gg => ?_)); try simp only [gg]) | refine cs1 hG rfl ?_ ?_ | refine cs2 hG rfl ?_ ?_ | ((first | refine kg (hT _ _) rfl hΘ ?_ | refine rga hG (by kernel_rfl) (fun Θ K hΘ hK => ?_) | refine rgb hG (by kernel_rfl) (fun Θ K hΘ hK => ?_)); simp (maxSteps := 2000000) only [go_sem, seval, reduceCtorEq, List.append_eq, q1, hf]) | ((first | refine Post.splitN (fun gg => ?_) (fun gg => ?_) | refine Post.split (fun gg => ?_) (fun gg => ?_)) <;> simp (maxSteps := 2000000) only [go_sem, seval, reduceCtorEq, List.append_eq, gg, q1, hf]) | (refine finR (by simp only [go_sem, seval, reduceCtorEq, List.append_eq, q1, hf]; exact rfl) ?_; simp only [go_sem, seval, reduceCtorEq, List.append_eq, q1, hf]) | refine updL hM ?_ (by omega) | (with_reducible exact fun _ _ => rfl))
      all_goals (first | omega | (simp only [decide_eq_true_eq, decide_eq_false_iff_not] at *; omega) | (simp only [List.length_append, List.length_cons, List.length_nil] <;> omega) | exact one_bv _ | exact one_sv _ | skip)
    · rw [if_neg h4] at hst
      simp only [Prod.mk.injEq] at hst
      obtain ⟨rfl, rfl⟩ := hst
      have q1 : ((n : Int) > 4096) = False := eq_false (by omega)
      repeat' (first | (with_reducible first | refine pa ?_ | refine pb ?_ | refine pc ?_ | refine nxt_n ?_ | refine nxt_e ?_ | refine nxt_r ?_ | refine blk_n ?_ | refine blk_r ?_ | refine blk_hit ?_ | refine blk_miss (by rfl) ?_ | refine pd ?_ | refine pe ?_ | refine pf ?_ | refine pg ?_ | apply And.intro) | (refine hK _ ?_; clear hK K hΘ Θ) | (with_reducible first | refine cw1 ?_ | refine cw2 ?_ | exact cw3 | exact cw4) | ((with_reducible first | refine cw5 (fun gg => ?_) | refine cw6 (fun gg => ?_) | refine cw7 (fun gg => ?_)); try simp only [gg]) | refine cs1 hG rfl ?_ ?_ | refine cs2 hG rfl ?_ ?_ | ((first | refine kg (hT _ _) rfl hΘ ?_ | refine rga hG (by kernel_rfl) (fun Θ K hΘ hK => ?_) | refine rgb hG (by kernel_rfl) (fun Θ K hΘ hK => ?_)); simp (maxSteps := 2000000) only [go_sem, seval, reduceCtorEq, List.append_eq, q1]) | ((first | refine Post.splitN (fun gg => ?_) (fun gg => ?_) | refine Post.split (fun gg => ?_) (fun gg => ?_)) <;> simp (maxSteps := 2000000) only [go_sem, seval, reduceCtorEq, List.append_eq, gg, q1]) | (refine finR (by simp only [go_sem, seval, reduceCtorEq, List.append_eq, q1]; exact rfl) ?_; simp only [go_sem, seval, reduceCtorEq, List.append_eq, q1]) | refine updL hM ?_ (by omega) | (with_reducible exact fun _ _ => rfl))
      all_goals (first | omega | (simp only [decide_eq_true_eq, decide_eq_false_iff_not] at *; omega) | (simp only [List.length_append, List.length_cons, List.length_nil] <;> omega) | exact one_bv _ | exact one_sv _ | skip)
      refine WC.loopA (fun q : Nat × List (List UInt8) × List UInt8 => ⟨[(9, .flat (.int .i64 q.1)), (8, .sl true 1 q.1 (sv q.2.1)), (6, .flat (.string (bs q.2.2))), (5, .flat (.int .i64 n))], M, mn⟩) (fun q => n - q.1) (fun q => q.1 ≤ n ∧ q.2.1.length = q.1 ∧ q.2.2.length ≤ s.length ∧ rTexts n s2 false = (q.2.1 ++ (rTexts (n - q.1) q.2.2 false).1, (rTexts (n - q.1) q.2.2 false).2)) (0, [], s2) ⟨by simp only; omega, rfl, hrl, by simp⟩ (sbs (by simp (maxSteps := 2000000) only [go_sem, seval, reduceCtorEq, List.append_eq, sv, List.map_nil]) rfl rfl) ?_
      rintro ⟨i, out, s'⟩ ⟨hi, hol, hsl, hsq⟩
      simp only at hi hol hsl hsq ⊢
      by_cases h : i < n
      · have g1 : ((i : Int) < (n : Int)) = True := eq_true (by omega)
        have v1 := wi1 (n := i) (by omega)
        have hrest := rText_rest s' false
        have hT2 := TakeText_sp s' (by omega)
        unfold tText at hT2
        rw [show n - i = (n - (i + 1)) + 1 by omega, rTexts] at hsq
        simp only [Bool.false_eq_true, if_false] at hsq
        generalize hX : rText s' false = X at *
        obtain ⟨u, v, w⟩ := X
        simp only at *
        cases w
        · skip
          repeat' (first | (with_reducible first | refine pa ?_ | refine pb ?_ | refine pc ?_ | refine nxt_n ?_ | refine nxt_e ?_ | refine nxt_r ?_ | refine blk_n ?_ | refine blk_r ?_ | refine blk_hit ?_ | refine blk_miss (by rfl) ?_ | refine pd ?_ | refine pe ?_ | refine pf ?_ | refine pg ?_ | apply And.intro) | (refine hK _ ?_; clear hK K hΘ Θ) | (with_reducible first | refine cw1 ?_ | refine cw2 ?_ | exact cw3 | exact cw4) | ((with_reducible first | refine cw5 (fun gg => ?_) | refine cw6 (fun gg => ?_) | refine cw7 (fun gg => ?_)); try simp only [gg]) | refine cs1 hG rfl ?_ ?_ | refine cs2 hG rfl ?_ ?_ | ((first | refine kg (hT2 _ _) rfl hΘ ?_ | refine rga hG (by kernel_rfl) (fun Θ K hΘ hK => ?_) | refine rgb hG (by kernel_rfl) (fun Θ K hΘ hK => ?_)); simp (maxSteps := 2000000) only [go_sem, seval, reduceCtorEq, List.append_eq, g1, v1]) | ((first | refine Post.splitN (fun gg => ?_) (fun gg => ?_) | refine Post.split (fun gg => ?_) (fun gg => ?_)) <;> simp (maxSteps := 2000000) only [go_sem, seval, reduceCtorEq, List.append_eq, gg, g1, v1]) | (refine finR (by simp only [go_sem, seval, reduceCtorEq, List.append_eq, g1, v1]; exact rfl) ?_; simp only [go_sem, seval, reduceCtorEq, List.append_eq, g1, v1]) | refine updL hM ?_ (by omega) | (with_reducible exact fun _ _ => rfl))
          all_goals (first | omega | (simp only [decide_eq_true_eq, decide_eq_false_iff_not] at *; omega) | (simp only [List.length_append, List.length_cons, List.length_nil] <;> omega) | exact one_bv _ | exact one_sv _ | skip)
          refine ⟨(i + 1, out ++ [u], v), ⟨by simp only; omega, by simp [hol], by simp only; omega, ?_⟩, by simp only; omega, (sbs (by simp (maxSteps := 2000000) only [go_sem, seval, reduceCtorEq, List.append_eq]) rfl rfl)⟩
          simp only
          rw [hsq]; simp
        · have hf := hL (by rw [hsp, hsq, rTexts_stop]; rfl)
          repeat' (first | (with_reducible first | refine pa ?_ | refine pb ?_ | refine pc ?_ | refine nxt_n ?_ | refine nxt_e ?_ | refine nxt_r ?_ | refine blk_n ?_ | refine blk_r ?_ | refine blk_hit ?_ | refine blk_miss (by rfl) ?_ | refine pd ?_ | refine pe ?_ | refine pf ?_ | refine pg ?_ | apply And.intro) | (refine hK _ ?_; clear hK K hΘ Θ) | (with_reducible first | refine cw1 ?_ | refine cw2 ?_ | exact cw3 | exact cw4) | ((with_reducible first | refine cw5 (fun gg => ?_) | refine cw6 (fun gg => ?_) | refine cw7 (fun gg => ?_)); try simp only [gg]) | refine cs1 hG rfl ?_ ?_ | refine cs2 hG rfl ?_ ?_ | ((first | refine kg (hT2 _ _) rfl hΘ ?_ | refine rga hG (by kernel_rfl) (fun Θ K hΘ hK => ?_) | refine rgb hG (by kernel_rfl) (fun Θ K hΘ hK => ?_)); simp (maxSteps := 2000000) only [go_sem, seval, reduceCtorEq, List.append_eq, g1, v1, hf]) | ((first | refine Post.splitN (fun gg => ?_) (fun gg => ?_) | refine Post.split (fun gg => ?_) (fun gg => ?_)) <;> simp (maxSteps := 2000000) only [go_sem, seval, reduceCtorEq, List.append_eq, gg, g1, v1, hf]) | (refine finR (by simp only [go_sem, seval, reduceCtorEq, List.append_eq, g1, v1, hf]; exact rfl) ?_; simp only [go_sem, seval, reduceCtorEq, List.append_eq, g1, v1, hf]) | refine updL hM ?_ (by omega) | (with_reducible exact fun _ _ => rfl))
          all_goals (first | omega | (simp only [decide_eq_true_eq, decide_eq_false_iff_not] at *; omega) | (simp only [List.length_append, List.length_cons, List.length_nil] <;> omega) | exact one_bv _ | exact one_sv _ | skip)
      · have g1 : ((i : Int) < (n : Int)) = False := eq_false (by omega)
        rw [show n - i = 0 by omega, rTexts] at hsq
        simp only [List.append_nil] at hsq
        have hl : rList s false = (out, (s', false)) := by rw [hsp, hsq]; simp
        have hf : tList s = .tup [.sl false 1 i (sv out), .flat (.string (bs s')), .flat (.bool true)] := by rw [tList, hl]; simp [hol]
        repeat' (first | (with_reducible first | refine pa ?_ | refine pb ?_ | refine pc ?_ | refine nxt_n ?_ | refine nxt_e ?_ | refine nxt_r ?_ | refine blk_n ?_ | refine blk_r ?_ | refine blk_hit ?_ | refine blk_miss (by rfl) ?_ | refine pd ?_ | refine pe ?_ | refine pf ?_ | refine pg ?_ | apply And.intro) | (refine hK _ ?_; clear hK K hΘ Θ) | (with_reducible first | refine cw1 ?_ | refine cw2 ?_ | exact cw3 | exact cw4) | ((with_reducible first | refine cw5 (fun gg => ?_) | refine cw6 (fun gg => ?_) | refine cw7 (fun gg => ?_)); try simp only [gg]) | refine cs1 hG rfl ?_ ?_ | refine cs2 hG rfl ?_ ?_ | ((first | refine rga hG (by kernel_rfl) (fun Θ K hΘ hK => ?_) | refine rgb hG (by kernel_rfl) (fun Θ K hΘ hK => ?_)); simp (maxSteps := 2000000) only [go_sem, seval, reduceCtorEq, List.append_eq, g1, hf]) | ((first | refine Post.splitN (fun gg => ?_) (fun gg => ?_) | refine Post.split (fun gg => ?_) (fun gg => ?_)) <;> simp (maxSteps := 2000000) only [go_sem, seval, reduceCtorEq, List.append_eq, gg, g1, hf]) | (refine finR (by simp only [go_sem, seval, reduceCtorEq, List.append_eq, g1, hf]; exact rfl) ?_; simp only [go_sem, seval, reduceCtorEq, List.append_eq, g1, hf]) | refine updL hM ?_ (by omega) | (with_reducible exact fun _ _ => rfl))
        all_goals (first | omega | (simp only [decide_eq_true_eq, decide_eq_false_iff_not] at *; omega) | (simp only [List.length_append, List.length_cons, List.length_nil] <;> omega) | exact one_bv _ | exact one_sv _ | skip)
  · have hf2 : f2 = true := by
      split at hst <;> (simp only [Prod.mk.injEq] at hst; exact hst.2)
    subst hf2
    have hf := hL (by rw [hsp, rTexts_stop]; rfl)
    repeat' (first | (with_reducible first | refine pa ?_ | refine pb ?_ | refine pc ?_ | refine nxt_n ?_ | refine nxt_e ?_ | refine nxt_r ?_ | refine blk_n ?_ | refine blk_r ?_ | refine blk_hit ?_ | refine blk_miss (by rfl) ?_ | refine pd ?_ | refine pe ?_ | refine pf ?_ | refine pg ?_ | apply And.intro) | (refine hK _ ?_; clear hK K hΘ Θ) | (with_reducible first | refine cw1 ?_ | refine cw2 ?_ | exact cw3 | exact cw4) | ((with_reducible first | refine cw5 (fun gg => ?_) | refine cw6 (fun gg => ?_) | refine cw7 (fun gg => ?_)); try simp only [gg]) | refine cs1 hG rfl ?_ ?_ | refine cs2 hG rfl ?_ ?_ | ((first | refine kg (hT _ _) rfl hΘ ?_ | refine rga hG (by kernel_rfl) (fun Θ K hΘ hK => ?_) | refine rgb hG (by kernel_rfl) (fun Θ K hΘ hK => ?_)); simp (maxSteps := 2000000) only [go_sem, seval, reduceCtorEq, List.append_eq, hf]) | ((first | refine Post.splitN (fun gg => ?_) (fun gg => ?_) | refine Post.split (fun gg => ?_) (fun gg => ?_)) <;> simp (maxSteps := 2000000) only [go_sem, seval, reduceCtorEq, List.append_eq, gg, hf]) | (refine finR (by simp only [go_sem, seval, reduceCtorEq, List.append_eq, hf]; exact rfl) ?_; simp only [go_sem, seval, reduceCtorEq, List.append_eq, hf]) | refine updL hM ?_ (by omega) | (with_reducible exact fun _ _ => rfl))
    all_goals (first | omega | (simp only [decide_eq_true_eq, decide_eq_false_iff_not] at *; omega) | (simp only [List.length_append, List.length_cons, List.length_nil] <;> omega) | exact one_bv _ | exact one_sv _ | skip)
theorem RSplit_sp (s : List UInt8) (hs : s.length ≤ 4611686018427387904) : Rt 89 [.flat (.string (bs s))] (.tup [.sl false 1 (sR s).length (sv (sR s)), .flat (.bool (decide (sE s = 0)))]) := by
  intro M mn
  refine fnLS (C := kc 23 [] []) (rs := [.tmp 2, .tmp 3]) envOk Tryd.func89 (by kernel_rfl) rfl rfl rfl rfl rfl rfl (lowTup (lowC1 (lowSl (FlatS.sv _)) (lowC1 (Low.flat _) lowC0))) ?_
  intro E hG hM
  by_cases h : 262144 < s.length
  · have q1 : ((s.length : Int) > 262144) = True := eq_true (by omega)
    have e1 : sE s = 4 := by unfold sE; rw [sL_long h]; rfl
    have e2 : sR s = [] := by unfold sR; rw [if_neg (by rw [e1]; omega)]
    have e0 : sv [] = [] := rfl
    repeat' (first | (with_reducible first | refine pa ?_ | refine pb ?_ | refine pc ?_ | refine nxt_n ?_ | refine nxt_e ?_ | refine nxt_r ?_ | refine blk_n ?_ | refine blk_r ?_ | refine blk_hit ?_ | refine blk_miss (by rfl) ?_ | refine pd ?_ | refine pe ?_ | refine pf ?_ | refine pg ?_ | apply And.intro) | (refine hK _ ?_; clear hK K hΘ Θ) | (with_reducible first | refine cw1 ?_ | refine cw2 ?_ | exact cw3 | exact cw4) | ((with_reducible first | refine cw5 (fun gg => ?_) | refine cw6 (fun gg => ?_) | refine cw7 (fun gg => ?_)); try simp only [gg]) | refine cs1 hG rfl ?_ ?_ | refine cs2 hG rfl ?_ ?_ | ((first | refine rga hG (by kernel_rfl) (fun Θ K hΘ hK => ?_) | refine rgb hG (by kernel_rfl) (fun Θ K hΘ hK => ?_)); simp (maxSteps := 2000000) only [go_sem, seval, reduceCtorEq, q1, e1, e2, e0]) | ((first | refine Post.splitN (fun gg => ?_) (fun gg => ?_) | refine Post.split (fun gg => ?_) (fun gg => ?_)) <;> simp (maxSteps := 2000000) only [go_sem, seval, reduceCtorEq, gg, q1, e1, e2, e0]) | (refine finR (by simp only [go_sem, seval, reduceCtorEq, q1, e1, e2, e0]; exact rfl) ?_; simp only [go_sem, seval, reduceCtorEq, q1, e1, e2, e0]) | refine updL hM ?_ (by omega) | (with_reducible exact fun _ _ => rfl))
    all_goals (first | omega | (simp only [decide_eq_true_eq, decide_eq_false_iff_not] at *; omega) | (simp only [List.length_append, List.length_cons, List.length_nil] <;> omega) | exact one_bv _ | exact one_sv _ | skip)
  · have q1 : ((s.length : Int) > 262144) = False := eq_false (by omega)
    have hl := sL_short (s := s) (by omega)
    have hT := TakeList_sp s hs
    unfold tList at hT
    rw [← hl] at hT
    have hE : sE s = rEnd (sL s).2.1 (sL s).2.2 := rfl
    have hR : sR s = if sE s = 0 then (sL s).1 else [] := rfl
    generalize sL s = L at *
    obtain ⟨l, r, f⟩ := L
    simp only at *
    have e0 : sv [] = [] := rfl
    cases f
    · rw [if_neg (by simp)] at hT
      by_cases hr : r = []
      · have e1 : sE s = 0 := by rw [hE, hr]; rfl
        have e2 : sR s = l := by rw [hR, if_pos e1]
        have e3 : (r = []) = True := eq_true hr
        repeat' (first | (with_reducible first | refine pa ?_ | refine pb ?_ | refine pc ?_ | refine nxt_n ?_ | refine nxt_e ?_ | refine nxt_r ?_ | refine blk_n ?_ | refine blk_r ?_ | refine blk_hit ?_ | refine blk_miss (by rfl) ?_ | refine pd ?_ | refine pe ?_ | refine pf ?_ | refine pg ?_ | apply And.intro) | (refine hK _ ?_; clear hK K hΘ Θ) | (with_reducible first | refine cw1 ?_ | refine cw2 ?_ | exact cw3 | exact cw4) | ((with_reducible first | refine cw5 (fun gg => ?_) | refine cw6 (fun gg => ?_) | refine cw7 (fun gg => ?_)); try simp only [gg]) | refine cs1 hG rfl ?_ ?_ | refine cs2 hG rfl ?_ ?_ | ((first | refine kg (hT _ _) rfl hΘ ?_ | refine rga hG (by kernel_rfl) (fun Θ K hΘ hK => ?_) | refine rgb hG (by kernel_rfl) (fun Θ K hΘ hK => ?_)); simp (maxSteps := 2000000) only [go_sem, seval, reduceCtorEq, q1, e1, e2, e3]) | ((first | refine Post.splitN (fun gg => ?_) (fun gg => ?_) | refine Post.split (fun gg => ?_) (fun gg => ?_)) <;> simp (maxSteps := 2000000) only [go_sem, seval, reduceCtorEq, gg, q1, e1, e2, e3]) | (refine finR (by simp only [go_sem, seval, reduceCtorEq, q1, e1, e2, e3]; exact rfl) ?_; simp only [go_sem, seval, reduceCtorEq, q1, e1, e2, e3]) | refine updL hM ?_ (by omega) | (with_reducible exact fun _ _ => rfl))
        all_goals (first | omega | (simp only [decide_eq_true_eq, decide_eq_false_iff_not] at *; omega) | (simp only [List.length_append, List.length_cons, List.length_nil] <;> omega) | exact one_bv _ | exact one_sv _ | skip)
      · have e1 : sE s = 4 := by rw [hE]; simp [rEnd, hr]
        have e2 : sR s = [] := by rw [hR, if_neg (by rw [e1]; omega)]
        have e3 : (r = []) = False := eq_false hr
        repeat' (first | (with_reducible first | refine pa ?_ | refine pb ?_ | refine pc ?_ | refine nxt_n ?_ | refine nxt_e ?_ | refine nxt_r ?_ | refine blk_n ?_ | refine blk_r ?_ | refine blk_hit ?_ | refine blk_miss (by rfl) ?_ | refine pd ?_ | refine pe ?_ | refine pf ?_ | refine pg ?_ | apply And.intro) | (refine hK _ ?_; clear hK K hΘ Θ) | (with_reducible first | refine cw1 ?_ | refine cw2 ?_ | exact cw3 | exact cw4) | ((with_reducible first | refine cw5 (fun gg => ?_) | refine cw6 (fun gg => ?_) | refine cw7 (fun gg => ?_)); try simp only [gg]) | refine cs1 hG rfl ?_ ?_ | refine cs2 hG rfl ?_ ?_ | ((first | refine kg (hT _ _) rfl hΘ ?_ | refine rga hG (by kernel_rfl) (fun Θ K hΘ hK => ?_) | refine rgb hG (by kernel_rfl) (fun Θ K hΘ hK => ?_)); simp (maxSteps := 2000000) only [go_sem, seval, reduceCtorEq, q1, e1, e2, e3, e0]) | ((first | refine Post.splitN (fun gg => ?_) (fun gg => ?_) | refine Post.split (fun gg => ?_) (fun gg => ?_)) <;> simp (maxSteps := 2000000) only [go_sem, seval, reduceCtorEq, gg, q1, e1, e2, e3, e0]) | (refine finR (by simp only [go_sem, seval, reduceCtorEq, q1, e1, e2, e3, e0]; exact rfl) ?_; simp only [go_sem, seval, reduceCtorEq, q1, e1, e2, e3, e0]) | refine updL hM ?_ (by omega) | (with_reducible exact fun _ _ => rfl))
        all_goals (first | omega | (simp only [decide_eq_true_eq, decide_eq_false_iff_not] at *; omega) | (simp only [List.length_append, List.length_cons, List.length_nil] <;> omega) | exact one_bv _ | exact one_sv _ | skip)
    · rw [if_pos rfl] at hT
      have e1 : sE s = 4 := by rw [hE]; simp [rEnd]
      have e2 : sR s = [] := by rw [hR, if_neg (by rw [e1]; omega)]
      repeat' (first | (with_reducible first | refine pa ?_ | refine pb ?_ | refine pc ?_ | refine nxt_n ?_ | refine nxt_e ?_ | refine nxt_r ?_ | refine blk_n ?_ | refine blk_r ?_ | refine blk_hit ?_ | refine blk_miss (by rfl) ?_ | refine pd ?_ | refine pe ?_ | refine pf ?_ | refine pg ?_ | apply And.intro) | (refine hK _ ?_; clear hK K hΘ Θ) | (with_reducible first | refine cw1 ?_ | refine cw2 ?_ | exact cw3 | exact cw4) | ((with_reducible first | refine cw5 (fun gg => ?_) | refine cw6 (fun gg => ?_) | refine cw7 (fun gg => ?_)); try simp only [gg]) | refine cs1 hG rfl ?_ ?_ | refine cs2 hG rfl ?_ ?_ | ((first | refine kg (hT _ _) rfl hΘ ?_ | refine rga hG (by kernel_rfl) (fun Θ K hΘ hK => ?_) | refine rgb hG (by kernel_rfl) (fun Θ K hΘ hK => ?_)); simp (maxSteps := 2000000) only [go_sem, seval, reduceCtorEq, q1, e1, e2, e0]) | ((first | refine Post.splitN (fun gg => ?_) (fun gg => ?_) | refine Post.split (fun gg => ?_) (fun gg => ?_)) <;> simp (maxSteps := 2000000) only [go_sem, seval, reduceCtorEq, gg, q1, e1, e2, e0]) | (refine finR (by simp only [go_sem, seval, reduceCtorEq, q1, e1, e2, e0]; exact rfl) ?_; simp only [go_sem, seval, reduceCtorEq, q1, e1, e2, e0]) | refine updL hM ?_ (by omega) | (with_reducible exact fun _ _ => rfl))
      all_goals (first | omega | (simp only [decide_eq_true_eq, decide_eq_false_iff_not] at *; omega) | (simp only [List.length_append, List.length_cons, List.length_nil] <;> omega) | exact one_bv _ | exact one_sv _ | skip)
end Go.VL

set_option linter.unusedVariables false
set_option linter.unusedSimpArgs false
set_option maxRecDepth 100000
set_option maxHeartbeats 8000000
open Go.RowKit
namespace Go.VL
open Go.Proofs
theorem RGoodDraft_sp (d : Dr) (hd : d.ok) : Rt 74 [.agg d.c] (.flat (.bool d.good)) := by
  have hf := Dr.fit d hd
  have hz := Dr.fit dr0 dr0_ok
  have f1 := fit_bv d.ref.1 32 d.ref.2
  have f2 := fit_bv z32.1 32 z32.2
  intro M mn
  refine fnL (C := kc 50 [] []) (rs := [.tmp 2]) envOk Tryd.func74 (by kernel_rfl) rfl rfl rfl rfl rfl rfl (Low.flat _) ?_
  intro E hG hM
  repeat' (first | (with_reducible first | refine pa ?_ | refine pb ?_ | refine pc ?_ | refine nxt_n ?_ | refine nxt_e ?_ | refine nxt_r ?_ | refine blk_n ?_ | refine blk_r ?_ | refine blk_hit ?_ | refine blk_miss (by rfl) ?_ | refine pd ?_ | refine pe ?_ | refine pf ?_ | refine pg ?_ | apply And.intro) | (refine hK _ ?_; clear hK K hΘ Θ) | (with_reducible first | refine cw1 ?_ | refine cw2 ?_ | exact cw3 | exact cw4) | ((with_reducible first | refine cw5 (fun gg => ?_) | refine cw6 (fun gg => ?_) | refine cw7 (fun gg => ?_)); try simp only [gg]) | refine cs1 hG rfl ?_ ?_ | refine cs2 hG rfl ?_ ?_ | ((first | refine rga hG (by kernel_rfl) (fun Θ K hΘ hK => ?_) | refine rgb hG (by kernel_rfl) (fun Θ K hΘ hK => ?_)); simp (maxSteps := 2000000) only [go_sem, seval, reduceCtorEq]) | ((first | refine Post.splitN (fun gg => ?_) (fun gg => ?_) | refine Post.split (fun gg => ?_) (fun gg => ?_)) <;> simp (maxSteps := 2000000) only [go_sem, seval, reduceCtorEq, gg]) | (refine finR (by simp only [go_sem, seval, reduceCtorEq]; exact rfl) ?_; simp only [go_sem, seval, reduceCtorEq]) | refine updL hM ?_ (by omega) | (with_reducible exact fun _ _ => rfl))
  all_goals (first | omega | (simp only [decide_eq_true_eq, decide_eq_false_iff_not] at *; omega) | (simp only [List.length_append, List.length_cons, List.length_nil] <;> omega) | exact one_bv _ | exact one_sv _ | skip)

  all_goals clear hf hz f1 f2
  all_goals
    have g1 := Dr.good_of_bad (d := d)
    have g2 := Dr.good_of (d := d)
    simp only [Dr.bad2] at g1 g2
    simp_all
theorem R9num_sp (n : Int) (hn : n < 9223372036854775808) : Rt 128 [.flat (.int .i64 n)] (.flat (.string (bs (numB n.toNat)))) := by
  intro M mn
  refine fnL (C := kc 7 [] []) (rs := [.tmp 2]) envOk Tryd.func128 (by kernel_rfl) rfl rfl rfl rfl rfl rfl (Low.flat _) ?_
  intro E hG hM
  by_cases h : n < 0
  · have f1 := eq_true h
    have e : n.toNat = 0 := by omega
    repeat' (first | (with_reducible first | refine pa ?_ | refine pb ?_ | refine pc ?_ | refine nxt_n ?_ | refine nxt_e ?_ | refine nxt_r ?_ | refine blk_n ?_ | refine blk_r ?_ | refine blk_hit ?_ | refine blk_miss (by rfl) ?_ | refine pd ?_ | refine pe ?_ | refine pf ?_ | refine pg ?_ | apply And.intro) | (refine hK _ ?_; clear hK K hΘ Θ) | (with_reducible first | refine cw1 ?_ | refine cw2 ?_ | exact cw3 | exact cw4) | ((with_reducible first | refine cw5 (fun gg => ?_) | refine cw6 (fun gg => ?_) | refine cw7 (fun gg => ?_)); try simp only [gg]) | refine cs1 hG rfl ?_ ?_ | refine cs2 hG rfl ?_ ?_ | ((first | refine kg (RNum_sp 0 (by omega) _ _) rfl hΘ ?_ | refine rga hG (by kernel_rfl) (fun Θ K hΘ hK => ?_) | refine rgb hG (by kernel_rfl) (fun Θ K hΘ hK => ?_)); simp (maxSteps := 2000000) only [go_sem, seval, reduceCtorEq, f1, e]) | ((first | refine Post.splitN (fun gg => ?_) (fun gg => ?_) | refine Post.split (fun gg => ?_) (fun gg => ?_)) <;> simp (maxSteps := 2000000) only [go_sem, seval, reduceCtorEq, gg, f1, e]) | (refine finR (by simp only [go_sem, seval, reduceCtorEq, f1, e]; exact rfl) ?_; simp only [go_sem, seval, reduceCtorEq, f1, e]) | refine updL hM ?_ (by omega) | (with_reducible exact fun _ _ => rfl))
    all_goals (first | omega | (simp only [decide_eq_true_eq, decide_eq_false_iff_not] at *; omega) | (simp only [List.length_append, List.length_cons, List.length_nil] <;> omega) | exact one_bv _ | exact one_sv _ | skip)
  · have f1 := eq_false h
    have e : ((n.toNat : Nat) : Int) = n := by omega
    have hR := RNum_sp n.toNat (by omega)
    rw [e] at hR
    repeat' (first | (with_reducible first | refine pa ?_ | refine pb ?_ | refine pc ?_ | refine nxt_n ?_ | refine nxt_e ?_ | refine nxt_r ?_ | refine blk_n ?_ | refine blk_r ?_ | refine blk_hit ?_ | refine blk_miss (by rfl) ?_ | refine pd ?_ | refine pe ?_ | refine pf ?_ | refine pg ?_ | apply And.intro) | (refine hK _ ?_; clear hK K hΘ Θ) | (with_reducible first | refine cw1 ?_ | refine cw2 ?_ | exact cw3 | exact cw4) | ((with_reducible first | refine cw5 (fun gg => ?_) | refine cw6 (fun gg => ?_) | refine cw7 (fun gg => ?_)); try simp only [gg]) | refine cs1 hG rfl ?_ ?_ | refine cs2 hG rfl ?_ ?_ | ((first | refine kg (hR _ _) rfl hΘ ?_ | refine rga hG (by kernel_rfl) (fun Θ K hΘ hK => ?_) | refine rgb hG (by kernel_rfl) (fun Θ K hΘ hK => ?_)); simp (maxSteps := 2000000) only [go_sem, seval, reduceCtorEq, f1]) | ((first | refine Post.splitN (fun gg => ?_) (fun gg => ?_) | refine Post.split (fun gg => ?_) (fun gg => ?_)) <;> simp (maxSteps := 2000000) only [go_sem, seval, reduceCtorEq, gg, f1]) | (refine finR (by simp only [go_sem, seval, reduceCtorEq, f1]; exact rfl) ?_; simp only [go_sem, seval, reduceCtorEq, f1]) | refine updL hM ?_ (by omega) | (with_reducible exact fun _ _ => rfl))
    all_goals (first | omega | (simp only [decide_eq_true_eq, decide_eq_false_iff_not] at *; omega) | (simp only [List.length_append, List.length_cons, List.length_nil] <;> omega) | exact one_bv _ | exact one_sv _ | skip)
theorem RDraftText_sp (d : Dr) (hd : d.ok) (ht : d.key.length + d.val.length ≤ 900000) : Rt 123 [.agg d.c] (.flat (.string (bs d.text))) := by
  obtain ⟨hk, h1, h2⟩ := id hd
  have hk2 : d.k < 9223372036854775808 := by have := hk.2; omega
  have hn := numB_length d.k.toNat (by omega)
  have htx : bs (listB [numB d.k.toNat, d.key, d.val, d.ref.1]) = bs d.text := rfl
  have tb := take_bv32 d.ref
  have hL := RList_sp [numB d.k.toNat, d.key, d.val, d.ref.1] (by simp [total, d.ref.2]; omega) (by simp)
  intro M mn
  refine fnL (C := kc 15 [] []) (rs := [.tmp 2]) envOk Tryd.func123 (by kernel_rfl) rfl rfl rfl rfl rfl rfl (Low.flat _) ?_
  intro E hG hM
  repeat' (first | (with_reducible first | refine pa ?_ | refine pb ?_ | refine pc ?_ | refine nxt_n ?_ | refine nxt_e ?_ | refine nxt_r ?_ | refine blk_n ?_ | refine blk_r ?_ | refine blk_hit ?_ | refine blk_miss (by rfl) ?_ | refine pd ?_ | refine pe ?_ | refine pf ?_ | refine pg ?_ | apply And.intro) | (refine hK _ ?_; first | clear hK K hn0 hcl hΘ Θ | clear hK K hΘ Θ) | (with_reducible first | refine cw1 ?_ | refine cw2 ?_ | exact cw3 | exact cw4) | ((with_reducible first | refine cw5 (fun gg => ?_) | refine cw6 (fun gg => ?_) | refine cw7 (fun gg => ?_)); try simp only [gg]) | refine cs1 hG rfl ?_ ?_ | refine cs2 hG rfl ?_ ?_ | ((first | refine kf (fun M n => R9num_sp d.k hk2 M n) rfl (by decide) cl0 hΘ hcl hn0 ?_ | refine kf (fun M n => hL M n) rfl (by decide) cl0 hΘ hcl hn0 ?_ | refine rga hG (by kernel_rfl) (fun Θ K hΘ hK => ?_) | refine rgb hG (by kernel_rfl) (fun Θ K hΘ hK => ?_) | refine rgc defCl hG (by kernel_rfl) cl0 (by rfl) (by kernel_rfl) (fun Θ K hΘ hcl hn0 hK => ?_) | refine rgd defCl hG (by kernel_rfl) cl0 (by rfl) (by kernel_rfl) (fun Θ K hΘ hcl hn0 hK => ?_)); simp (maxSteps := 2000000) only [go_sem, seval, reduceCtorEq, htx, tb]) | ((first | refine Post.splitN (fun gg => ?_) (fun gg => ?_) | refine PostB.splitN (fun gg => ?_) (fun gg => ?_) | refine Post.split (fun gg => ?_) (fun gg => ?_) | refine PostB.split (fun gg => ?_) (fun gg => ?_)) <;> simp (maxSteps := 2000000) only [go_sem, seval, reduceCtorEq, gg, htx, tb]) | (refine finR (by simp only [go_sem, seval, reduceCtorEq, htx, tb]; exact rfl) ?_; simp only [go_sem, seval, reduceCtorEq, htx, tb]) | refine updL hM ?_ (by omega) | (with_reducible exact fun _ _ => rfl))
  all_goals (first | omega | (simp only [decide_eq_true_eq, decide_eq_false_iff_not] at *; omega) | (simp only [List.length_append, List.length_cons, List.length_nil] <;> omega) | exact one_bv _ | exact one_sv _ | skip)
theorem whole_of (s : List UInt8) (h : s.length ≤ 262144) : isBig s = false := by unfold isBig; simp; omega
theorem R15Num_sp (s : List UInt8) (hs : s.length ≤ 262144) : Rt 90 [.flat (.string (bs s))] (.flat (.int .i64 (numT s))) := by
  have hT := TakeNum_sp s (by omega)
  have hW : numT s = if rEnd (rNum s false).2.1 (rNum s false).2.2 = 0 then ((rNum s false).1 : Int) else -1 := by
    unfold numT wholeOk wholeN; rw [whole_of s hs]; simp
  unfold tNum at hT
  rw [hW]
  generalize rNum s false = A at *
  obtain ⟨n, r, f⟩ := A
  simp only at *
  intro M mn
  refine fnL (C := kc 19 [] []) (rs := [.tmp 2]) envOk Tryd.func90 (by kernel_rfl) rfl rfl rfl rfl rfl rfl (Low.flat _) ?_
  intro E hG hM
  cases f
  · by_cases hr : r = []
    · have e3 : (r = []) = True := eq_true hr
      have e4 : rEnd r false = 0 := by simp [rEnd, hr]
      repeat' (first | (with_reducible first | refine pa ?_ | refine pb ?_ | refine pc ?_ | refine nxt_n ?_ | refine nxt_e ?_ | refine nxt_r ?_ | refine blk_n ?_ | refine blk_r ?_ | refine blk_hit ?_ | refine blk_miss (by rfl) ?_ | refine pd ?_ | refine pe ?_ | refine pf ?_ | refine pg ?_ | apply And.intro) | (refine hK _ ?_; clear hK K hΘ Θ) | (with_reducible first | refine cw1 ?_ | refine cw2 ?_ | exact cw3 | exact cw4) | ((with_reducible first | refine cw5 (fun gg => ?_) | refine cw6 (fun gg => ?_) | refine cw7 (fun gg => ?_)); try simp only [gg]) | refine cs1 hG rfl ?_ ?_ | refine cs2 hG rfl ?_ ?_ | ((first | refine kg (hT _ _) rfl hΘ ?_ | refine rga hG (by kernel_rfl) (fun Θ K hΘ hK => ?_) | refine rgb hG (by kernel_rfl) (fun Θ K hΘ hK => ?_)); simp (maxSteps := 2000000) only [go_sem, seval, reduceCtorEq, e3, e4]) | ((first | refine Post.splitN (fun gg => ?_) (fun gg => ?_) | refine Post.split (fun gg => ?_) (fun gg => ?_)) <;> simp (maxSteps := 2000000) only [go_sem, seval, reduceCtorEq, gg, e3, e4]) | (refine finR (by simp only [go_sem, seval, reduceCtorEq, e3, e4]; exact rfl) ?_; simp only [go_sem, seval, reduceCtorEq, e3, e4]) | refine updL hM ?_ (by omega) | (with_reducible exact fun _ _ => rfl))
      all_goals (first | omega | (simp only [decide_eq_true_eq, decide_eq_false_iff_not] at *; omega) | (simp only [List.length_append, List.length_cons, List.length_nil] <;> omega) | exact one_bv _ | exact one_sv _ | skip)
    · have e3 : (r = []) = False := eq_false hr
      have e4 : rEnd r false = 4 := by simp [rEnd, hr]
      repeat' (first | (with_reducible first | refine pa ?_ | refine pb ?_ | refine pc ?_ | refine nxt_n ?_ | refine nxt_e ?_ | refine nxt_r ?_ | refine blk_n ?_ | refine blk_r ?_ | refine blk_hit ?_ | refine blk_miss (by rfl) ?_ | refine pd ?_ | refine pe ?_ | refine pf ?_ | refine pg ?_ | apply And.intro) | (refine hK _ ?_; clear hK K hΘ Θ) | (with_reducible first | refine cw1 ?_ | refine cw2 ?_ | exact cw3 | exact cw4) | ((with_reducible first | refine cw5 (fun gg => ?_) | refine cw6 (fun gg => ?_) | refine cw7 (fun gg => ?_)); try simp only [gg]) | refine cs1 hG rfl ?_ ?_ | refine cs2 hG rfl ?_ ?_ | ((first | refine kg (hT _ _) rfl hΘ ?_ | refine rga hG (by kernel_rfl) (fun Θ K hΘ hK => ?_) | refine rgb hG (by kernel_rfl) (fun Θ K hΘ hK => ?_)); simp (maxSteps := 2000000) only [go_sem, seval, reduceCtorEq, e3, e4]) | ((first | refine Post.splitN (fun gg => ?_) (fun gg => ?_) | refine Post.split (fun gg => ?_) (fun gg => ?_)) <;> simp (maxSteps := 2000000) only [go_sem, seval, reduceCtorEq, gg, e3, e4]) | (refine finR (by simp only [go_sem, seval, reduceCtorEq, e3, e4]; exact rfl) ?_; simp only [go_sem, seval, reduceCtorEq, e3, e4]) | refine updL hM ?_ (by omega) | (with_reducible exact fun _ _ => rfl))
      all_goals (first | omega | (simp only [decide_eq_true_eq, decide_eq_false_iff_not] at *; omega) | (simp only [List.length_append, List.length_cons, List.length_nil] <;> omega) | exact one_bv _ | exact one_sv _ | skip)
  · have e4 : rEnd r true = 4 := by simp [rEnd]
    repeat' (first | (with_reducible first | refine pa ?_ | refine pb ?_ | refine pc ?_ | refine nxt_n ?_ | refine nxt_e ?_ | refine nxt_r ?_ | refine blk_n ?_ | refine blk_r ?_ | refine blk_hit ?_ | refine blk_miss (by rfl) ?_ | refine pd ?_ | refine pe ?_ | refine pf ?_ | refine pg ?_ | apply And.intro) | (refine hK _ ?_; clear hK K hΘ Θ) | (with_reducible first | refine cw1 ?_ | refine cw2 ?_ | exact cw3 | exact cw4) | ((with_reducible first | refine cw5 (fun gg => ?_) | refine cw6 (fun gg => ?_) | refine cw7 (fun gg => ?_)); try simp only [gg]) | refine cs1 hG rfl ?_ ?_ | refine cs2 hG rfl ?_ ?_ | ((first | refine kg (hT _ _) rfl hΘ ?_ | refine rga hG (by kernel_rfl) (fun Θ K hΘ hK => ?_) | refine rgb hG (by kernel_rfl) (fun Θ K hΘ hK => ?_)); simp (maxSteps := 2000000) only [go_sem, seval, reduceCtorEq, e4]) | ((first | refine Post.splitN (fun gg => ?_) (fun gg => ?_) | refine Post.split (fun gg => ?_) (fun gg => ?_)) <;> simp (maxSteps := 2000000) only [go_sem, seval, reduceCtorEq, gg, e4]) | (refine finR (by simp only [go_sem, seval, reduceCtorEq, e4]; exact rfl) ?_; simp only [go_sem, seval, reduceCtorEq, e4]) | refine updL hM ?_ (by omega) | (with_reducible exact fun _ _ => rfl))
    all_goals (first | omega | (simp only [decide_eq_true_eq, decide_eq_false_iff_not] at *; omega) | (simp only [List.length_append, List.length_cons, List.length_nil] <;> omega) | exact one_bv _ | exact one_sv _ | skip)
def fillB (l : List UInt8) (n i : Nat) : List UInt8 := l.take i ++ List.replicate (n - i) 0
theorem fillB_len (l : List UInt8) (n i : Nat) (h : i ≤ l.length) (hn : i ≤ n) : (fillB l n i).length = n := by simp [fillB]; omega
theorem fillB_set (l : List UInt8) (n i : Nat) (h : i < l.length) (hn : i < n) : (fillB l n i).set i (l.getD i 0) = fillB l n (i + 1) := by
  have hl : (l.take i).length = i := by simp; omega
  unfold fillB
  rw [List.set_append_right _ _ (by omega), hl, Nat.sub_self, show n - i = (n - (i + 1)) + 1 by omega, List.replicate_succ, List.set_cons_zero, take_snoc l i 0 h]; simp
theorem fillB_all (l : List UInt8) : fillB l l.length l.length = l := by simp [fillB]
end Go.VL

set_option linter.unusedVariables false
set_option linter.unusedSimpArgs false
set_option maxRecDepth 100000
set_option maxHeartbeats 8000000
open Go.RowKit
namespace Go.VL
open Go.Proofs
theorem R15Good_sp (e : Ent) (he : e.ok) : Rt 30 [.agg e.c] (.flat (.bool e.good)) := by
  have hd := he.2.1
  have h1 : e.out = (decide (e.mask ≥ 1) && decide (e.mask ≤ 31) && decide ((e.pay.length : Int) ≤ 2048)) := rfl
  have h2 : e.none = (decide (e.d.k = 0) && decide (e.d.key = []) && decide (e.d.val = []) && decide (e.d.ref = z32)) := rfl
  have h3 : e.bare = (decide (e.from_ = 0) && decide (e.seq = 0) && decide (e.prev = z32) && decide (e.sig = [])) := rfl
  intro M mn
  refine fnL (C := kc 121 [] []) (rs := [.tmp 2]) envOk Tryd.func30 (by kernel_rfl) rfl rfl rfl rfl rfl rfl (Low.flat _) ?_
  intro E hG hM
  repeat' (first | (with_reducible first | refine pa ?_ | refine pb ?_ | refine pc ?_ | refine nxt_n ?_ | refine nxt_e ?_ | refine nxt_r ?_ | refine blk_n ?_ | refine blk_r ?_ | refine blk_hit ?_ | refine blk_miss (by rfl) ?_ | refine pd ?_ | refine pe ?_ | refine pf ?_ | refine pg ?_ | apply And.intro) | (refine hK _ ?_; clear hK K hΘ Θ) | (with_reducible first | refine cw1 ?_ | refine cw2 ?_ | exact cw3 | exact cw4) | ((with_reducible first | refine cw5 (fun gg => ?_) | refine cw6 (fun gg => ?_) | refine cw7 (fun gg => ?_)); try simp only [gg]) | refine cs1 hG rfl ?_ ?_ | refine cs2 hG rfl ?_ ?_ | ((fail_if_success (with_reducible first | show WC _ _ _ (.region 1 _ _) _ _ | show WC _ _ _ (.seq (.region 1 _ _) _) _ _)); (first | refine rga hG (by kernel_rfl) (fun Θ K hΘ hK => ?_) | refine rgb hG (by kernel_rfl) (fun Θ K hΘ hK => ?_)); simp (maxSteps := 2000000) only [go_sem, seval, reduceCtorEq, List.append_eq]) | ((first | refine Post.splitN (fun gg => ?_) (fun gg => ?_) | refine Post.split (fun gg => ?_) (fun gg => ?_)) <;> simp (maxSteps := 2000000) only [go_sem, seval, reduceCtorEq, List.append_eq, gg]) | (refine finR (by simp only [go_sem, seval, reduceCtorEq, List.append_eq]; exact rfl) ?_; simp only [go_sem, seval, reduceCtorEq, List.append_eq]) | refine updL hM ?_ (by omega) | (with_reducible exact fun _ _ => rfl))
  all_goals (first | omega | (simp only [decide_eq_true_eq, decide_eq_false_iff_not] at *; omega) | (simp only [List.length_append, List.length_cons, List.length_nil] <;> omega) | exact one_bv _ | exact one_sv _ | skip)
  repeat (with_reducible first | refine pa ?_ | refine pb ?_ | refine pc ?_ | refine nxt_n ?_ | refine nxt_e ?_ | refine nxt_r ?_ | refine blk_n ?_ | refine blk_r ?_ | refine blk_hit ?_ | refine blk_miss (by rfl) ?_ | refine pd ?_ | refine pe ?_ | refine pf ?_ | refine pg ?_)
  first | refine WC.regionTo (⟨[(1, .bp mn 0), (3, .flat (.bool e.out))], upd M mn (some e.c), mn + 1⟩) envOk lenvOk hG (by kernel_rfl) (fun Θ K hΘ hK => ?_) ?_ | refine WC.seq (WC.regionTo (⟨[(1, .bp mn 0), (3, .flat (.bool e.out))], upd M mn (some e.c), mn + 1⟩) envOk lenvOk hG (by kernel_rfl) (fun Θ K hΘ hK => ?_) ?_)
  focus (simp (maxSteps := 2000000) only [go_sem, seval, reduceCtorEq, List.append_eq]; (repeat' (first | (with_reducible apply And.intro) | ((first | refine Post.splitN (fun gg => ?_) (fun gg => ?_) | refine Post.split (fun gg => ?_) (fun gg => ?_)) <;> simp (maxSteps := 2000000) only [go_sem, seval, reduceCtorEq, List.append_eq, gg]))); any_goals (first | (refine hK _ (Sub.of ?_ (.refl _) rfl); simp only [subL, lk, reduceIte, Nat.reduceEqDiff, upd_same]; (repeat' (with_reducible apply And.intro)); all_goals (first | exact SubV.refl _ | exact SubV.nil _ _ | exact SubV.fz _ _ _ | exact trivial | (refine SubV.of_eq ?_; simp_all; done)); done) | omega | skip); done)
  repeat (with_reducible first | refine pa ?_ | refine pb ?_ | refine pc ?_ | refine nxt_n ?_ | refine nxt_e ?_ | refine nxt_r ?_ | refine blk_n ?_ | refine blk_r ?_ | refine blk_hit ?_ | refine blk_miss (by rfl) ?_ | refine pd ?_ | refine pe ?_ | refine pf ?_ | refine pg ?_)
  first | refine WC.regionTo (⟨[(1, .bp mn 0), (3, .flat (.bool e.out)), (4, .flat (.bool e.none))], upd M mn (some e.c), mn + 1⟩) envOk lenvOk hG (by kernel_rfl) (fun Θ K hΘ hK => ?_) ?_ | refine WC.seq (WC.regionTo (⟨[(1, .bp mn 0), (3, .flat (.bool e.out)), (4, .flat (.bool e.none))], upd M mn (some e.c), mn + 1⟩) envOk lenvOk hG (by kernel_rfl) (fun Θ K hΘ hK => ?_) ?_)
  focus (simp (maxSteps := 2000000) only [go_sem, seval, reduceCtorEq, List.append_eq]; (repeat' (first | (with_reducible apply And.intro) | ((first | refine Post.splitN (fun gg => ?_) (fun gg => ?_) | refine Post.split (fun gg => ?_) (fun gg => ?_)) <;> simp (maxSteps := 2000000) only [go_sem, seval, reduceCtorEq, List.append_eq, gg]))); any_goals (first | (refine hK _ (Sub.of ?_ (.refl _) rfl); simp only [subL, lk, reduceIte, Nat.reduceEqDiff, upd_same]; (repeat' (with_reducible apply And.intro)); all_goals (first | exact SubV.refl _ | exact SubV.nil _ _ | exact SubV.fz _ _ _ | exact trivial | (refine SubV.of_eq ?_; simp_all; done)); done) | omega | skip); done)
  repeat (with_reducible first | refine pa ?_ | refine pb ?_ | refine pc ?_ | refine nxt_n ?_ | refine nxt_e ?_ | refine nxt_r ?_ | refine blk_n ?_ | refine blk_r ?_ | refine blk_hit ?_ | refine blk_miss (by rfl) ?_ | refine pd ?_ | refine pe ?_ | refine pf ?_ | refine pg ?_)
  first | refine WC.regionTo (⟨[(1, .bp mn 0), (3, .flat (.bool e.out)), (4, .flat (.bool e.none)), (5, .flat (.bool e.bare))], upd M mn (some e.c), mn + 1⟩) envOk lenvOk hG (by kernel_rfl) (fun Θ K hΘ hK => ?_) ?_ | refine WC.seq (WC.regionTo (⟨[(1, .bp mn 0), (3, .flat (.bool e.out)), (4, .flat (.bool e.none)), (5, .flat (.bool e.bare))], upd M mn (some e.c), mn + 1⟩) envOk lenvOk hG (by kernel_rfl) (fun Θ K hΘ hK => ?_) ?_)
  focus (simp (maxSteps := 2000000) only [go_sem, seval, reduceCtorEq, List.append_eq]; (repeat' (first | (with_reducible apply And.intro) | ((first | refine Post.splitN (fun gg => ?_) (fun gg => ?_) | refine Post.split (fun gg => ?_) (fun gg => ?_)) <;> simp (maxSteps := 2000000) only [go_sem, seval, reduceCtorEq, List.append_eq, gg]))); any_goals (first | (refine hK _ (Sub.of ?_ (.refl _) rfl); simp only [subL, lk, reduceIte, Nat.reduceEqDiff, upd_same]; (repeat' (with_reducible apply And.intro)); all_goals (first | exact SubV.refl _ | exact SubV.nil _ _ | exact SubV.fz _ _ _ | exact trivial | (refine SubV.of_eq ?_; simp_all; done)); done) | omega | skip); done)
  clear h1 h2 h3
  repeat' (first | (with_reducible first | refine pa ?_ | refine pb ?_ | refine pc ?_ | refine nxt_n ?_ | refine nxt_e ?_ | refine nxt_r ?_ | refine blk_n ?_ | refine blk_r ?_ | refine blk_hit ?_ | refine blk_miss (by rfl) ?_ | refine pd ?_ | refine pe ?_ | refine pf ?_ | refine pg ?_ | apply And.intro) | (refine hK _ ?_; clear hK K hΘ Θ) | (with_reducible first | refine cw1 ?_ | refine cw2 ?_ | exact cw3 | exact cw4) | ((with_reducible first | refine cw5 (fun gg => ?_) | refine cw6 (fun gg => ?_) | refine cw7 (fun gg => ?_)); try simp only [gg]) | refine cs1 hG rfl ?_ ?_ | refine cs2 hG rfl ?_ ?_ | ((first | refine kg (RGoodDraft_sp e.d hd _ _) rfl hΘ ?_ | refine rga hG (by kernel_rfl) (fun Θ K hΘ hK => ?_) | refine rgb hG (by kernel_rfl) (fun Θ K hΘ hK => ?_)); simp (maxSteps := 2000000) only [go_sem, seval, reduceCtorEq, List.append_eq]) | ((first | refine Post.splitN (fun gg => ?_) (fun gg => ?_) | refine Post.split (fun gg => ?_) (fun gg => ?_)) <;> simp (maxSteps := 2000000) only [go_sem, seval, reduceCtorEq, List.append_eq, gg]) | (refine finR (by simp only [go_sem, seval, reduceCtorEq, List.append_eq]; exact rfl) ?_; simp only [go_sem, seval, reduceCtorEq, List.append_eq]) | refine updL hM ?_ (by omega) | (with_reducible exact fun _ _ => rfl))
  all_goals (first | omega | (simp only [decide_eq_true_eq, decide_eq_false_iff_not] at *; omega) | (simp only [List.length_append, List.length_cons, List.length_nil] <;> omega) | exact one_bv _ | exact one_sv _ | skip)
  all_goals (simp_all [Ent.good] <;> (intros; omega))
theorem RNumI_sp (n : Int) (h0 : 0 ≤ n) (hn : n < 9223372036854775808) : Rt 67 [.flat (.int .i64 n)] (.flat (.string (bs (numB n.toNat)))) := by
  have := RNum_sp n.toNat (by omega)
  rwa [show ((n.toNat : Nat) : Int) = n by omega] at this
theorem R15Text_sp (e : Ent) (he : e.ok) : Rt 107 [.agg e.c] (.flat (.string (bs e.text))) := by
  obtain ⟨i1, i2, i3, i4, i5, i6, i7⟩ := id he
  have n1 : e.kind < 9223372036854775808 := by have := i1.2; omega
  have n2 : e.from_ < 9223372036854775808 := by have := i3.2; omega
  have n3 : e.seq < 9223372036854775808 := by have := i4.2; omega
  have n4 : e.mask < 9223372036854775808 := by have := i5.2; omega
  have n5 : e.d.k < 9223372036854775808 := by have := i2.1.2; omega
  have b1 := numB_length e.kind.toNat (by omega)
  have b2 := numB_length e.from_.toNat (by omega)
  have b3 := numB_length e.seq.toNat (by omega)
  have b4 := numB_length e.mask.toNat (by omega)
  have tb := take_bv32 e.prev
  intro M mn
  refine fnL (C := kc 56 [14, 23, 38, 49] []) (rs := [.tmp 2]) envOk Tryd.func107 (by kernel_rfl) rfl rfl rfl rfl rfl rfl (Low.flat _) ?_
  intro E hG hM
  by_cases hg : e.good = true
  · obtain ⟨c1, c2, c3, c4⟩ := Ent.good_le hg
    have b5 := Dr.text_le e.d c3 c4 n5
    have ht : e.text = listB e.parts := if_pos hg
    rcases Ent.kinds hg with hk | hk | hk
    · have p1 : e.parts = [numB e.kind.toNat, e.d.text] := if_pos hk
      have hts : bs (listB [numB e.kind.toNat, e.d.text]) = bs e.text := by rw [ht, p1]
      have hL := RList_sp [numB e.kind.toNat, e.d.text] (by simp [total]; omega) (by simp)
      have k1 : (e.kind = 1) = True := eq_true hk
      have k2 : (e.kind = 2) = False := eq_false (by omega)
      have k3 : (e.kind ≥ 2) = False := eq_false (by omega)
      repeat' (first | (with_reducible first | refine pa ?_ | refine pb ?_ | refine pc ?_ | refine nxt_n ?_ | refine nxt_e ?_ | refine nxt_r ?_ | refine blk_n ?_ | refine blk_r ?_ | refine blk_hit ?_ | refine blk_miss (by rfl) ?_ | refine pd ?_ | refine pe ?_ | refine pf ?_ | refine pg ?_ | apply And.intro) | (refine hK _ ?_; first | clear hK K hn0 hcl hΘ Θ | clear hK K hΘ Θ) | (with_reducible first | refine cw1 ?_ | refine cw2 ?_ | exact cw3 | exact cw4) | ((with_reducible first | refine cw5 (fun gg => ?_) | refine cw6 (fun gg => ?_) | refine cw7 (fun gg => ?_)); try simp only [gg]) | refine cs1 hG rfl ?_ ?_ | refine cs2 hG rfl ?_ ?_ | ((first | refine kg (R15Good_sp e he _ _) rfl hΘ ?_ | refine kg (RNumI_sp e.kind (by omega) n1 _ _) rfl hΘ ?_ | refine kg (RDraftText_sp e.d i2 (by omega) _ _) rfl hΘ ?_ | refine kg (hL _ _) rfl hΘ ?_ | refine rga hG (by kernel_rfl) (fun Θ K hΘ hK => ?_) | refine rgb hG (by kernel_rfl) (fun Θ K hΘ hK => ?_) | refine rgc defCl hG (by kernel_rfl) cl0 (by rfl) (by kernel_rfl) (fun Θ K hΘ hcl hn0 hK => ?_) | refine rgd defCl hG (by kernel_rfl) cl0 (by rfl) (by kernel_rfl) (fun Θ K hΘ hcl hn0 hK => ?_)); simp (maxSteps := 2000000) only [go_sem, seval, reduceCtorEq, List.append_eq, hg, k1, k2, k3, hts]) | ((first | refine Post.splitN (fun gg => ?_) (fun gg => ?_) | refine PostB.splitN (fun gg => ?_) (fun gg => ?_) | refine Post.split (fun gg => ?_) (fun gg => ?_) | refine PostB.split (fun gg => ?_) (fun gg => ?_)) <;> simp (maxSteps := 2000000) only [go_sem, seval, reduceCtorEq, List.append_eq, gg, hg, k1, k2, k3, hts]) | (refine finR (by simp only [go_sem, seval, reduceCtorEq, List.append_eq, hg, k1, k2, k3, hts]; exact rfl) ?_; simp only [go_sem, seval, reduceCtorEq, List.append_eq, hg, k1, k2, k3, hts]) | refine updL hM ?_ (by omega) | (with_reducible exact fun _ _ => rfl))
      all_goals (first | omega | (simp only [decide_eq_true_eq, decide_eq_false_iff_not] at *; omega) | (simp only [List.length_append, List.length_cons, List.length_nil] <;> omega) | exact one_bv _ | exact one_sv _ | skip)
    · have p1 : e.parts = [numB e.kind.toNat, numB e.from_.toNat, numB e.seq.toNat, e.prev.1, numB e.mask.toNat, e.pay, e.sig] := by rw [Ent.parts, if_neg (by omega), if_pos hk]
      have hg2 := hg
      rw [Ent.good2 hk] at hg2
      simp only [Bool.and_eq_true, decide_eq_true_eq] at hg2
      have hm := Ent.out_ge hg2.1.1.1.1.1
      have hts : bs (listB [numB e.kind.toNat, numB e.from_.toNat, numB e.seq.toNat, e.prev.1, numB e.mask.toNat, e.pay, e.sig]) = bs e.text := by rw [ht, p1]
      have hL := RList_sp [numB e.kind.toNat, numB e.from_.toNat, numB e.seq.toNat, e.prev.1, numB e.mask.toNat, e.pay, e.sig] (by simp [total, e.prev.2]; omega) (by simp)
      have k1 : (e.kind = 1) = False := eq_false (by omega)
      have k2 : (e.kind = 2) = True := eq_true hk
      have k3 : (e.kind ≥ 2) = True := eq_true (by omega)
      repeat' (first | (with_reducible first | refine pa ?_ | refine pb ?_ | refine pc ?_ | refine nxt_n ?_ | refine nxt_e ?_ | refine nxt_r ?_ | refine blk_n ?_ | refine blk_r ?_ | refine blk_hit ?_ | refine blk_miss (by rfl) ?_ | refine pd ?_ | refine pe ?_ | refine pf ?_ | refine pg ?_ | apply And.intro) | (refine hK _ ?_; first | clear hK K hn0 hcl hΘ Θ | clear hK K hΘ Θ) | (with_reducible first | refine cw1 ?_ | refine cw2 ?_ | exact cw3 | exact cw4) | ((with_reducible first | refine cw5 (fun gg => ?_) | refine cw6 (fun gg => ?_) | refine cw7 (fun gg => ?_)); try simp only [gg]) | refine cs1 hG rfl ?_ ?_ | refine cs2 hG rfl ?_ ?_ | ((first | refine kg (R15Good_sp e he _ _) rfl hΘ ?_ | refine kg (RNumI_sp e.kind (by omega) n1 _ _) rfl hΘ ?_ | refine kf (fun M n => RNumI_sp e.from_ (by omega) n2 M n) rfl (by decide) cl0 hΘ hcl hn0 ?_ | refine kf (fun M n => RNumI_sp e.seq (by omega) n3 M n) rfl (by decide) cl0 hΘ hcl hn0 ?_ | refine kf (fun M n => RNumI_sp e.mask (by omega) n4 M n) rfl (by decide) cl0 hΘ hcl hn0 ?_ | refine kg (hL _ _) rfl hΘ ?_ | refine rga hG (by kernel_rfl) (fun Θ K hΘ hK => ?_) | refine rgb hG (by kernel_rfl) (fun Θ K hΘ hK => ?_) | refine rgc defCl hG (by kernel_rfl) cl0 (by rfl) (by kernel_rfl) (fun Θ K hΘ hcl hn0 hK => ?_) | refine rgd defCl hG (by kernel_rfl) cl0 (by rfl) (by kernel_rfl) (fun Θ K hΘ hcl hn0 hK => ?_)); simp (maxSteps := 2000000) only [go_sem, seval, reduceCtorEq, List.append_eq, hg, k1, k2, k3, hts, tb]) | ((first | refine Post.splitN (fun gg => ?_) (fun gg => ?_) | refine PostB.splitN (fun gg => ?_) (fun gg => ?_) | refine Post.split (fun gg => ?_) (fun gg => ?_) | refine PostB.split (fun gg => ?_) (fun gg => ?_)) <;> simp (maxSteps := 2000000) only [go_sem, seval, reduceCtorEq, List.append_eq, gg, hg, k1, k2, k3, hts, tb]) | (refine finR (by simp only [go_sem, seval, reduceCtorEq, List.append_eq, hg, k1, k2, k3, hts, tb]; exact rfl) ?_; simp only [go_sem, seval, reduceCtorEq, List.append_eq, hg, k1, k2, k3, hts, tb]) | refine updL hM ?_ (by omega) | (with_reducible exact fun _ _ => rfl))
      all_goals (first | omega | (simp only [decide_eq_true_eq, decide_eq_false_iff_not] at *; omega) | (simp only [List.length_append, List.length_cons, List.length_nil] <;> omega) | exact one_bv _ | exact one_sv _ | skip)
    · have p1 : e.parts = [numB e.kind.toNat, numB e.mask.toNat, e.pay] := by rw [Ent.parts, if_neg (by omega), if_neg (by omega)]
      have hg2 := hg
      rw [Ent.good3 hk] at hg2
      simp only [Bool.and_eq_true, decide_eq_true_eq] at hg2
      have hm := Ent.out_ge hg2.1
      have hts : bs (listB [numB e.kind.toNat, numB e.mask.toNat, e.pay]) = bs e.text := by rw [ht, p1]
      have hL := RList_sp [numB e.kind.toNat, numB e.mask.toNat, e.pay] (by simp [total]; omega) (by simp)
      have k1 : (e.kind = 1) = False := eq_false (by omega)
      have k2 : (e.kind = 2) = False := eq_false (by omega)
      have k3 : (e.kind ≥ 2) = True := eq_true (by omega)
      repeat' (first | (with_reducible first | refine pa ?_ | refine pb ?_ | refine pc ?_ | refine nxt_n ?_ | refine nxt_e ?_ | refine nxt_r ?_ | refine blk_n ?_ | refine blk_r ?_ | refine blk_hit ?_ | refine blk_miss (by rfl) ?_ | refine pd ?_ | refine pe ?_ | refine pf ?_ | refine pg ?_ | apply And.intro) | (refine hK _ ?_; first | clear hK K hn0 hcl hΘ Θ | clear hK K hΘ Θ) | (with_reducible first | refine cw1 ?_ | refine cw2 ?_ | exact cw3 | exact cw4) | ((with_reducible first | refine cw5 (fun gg => ?_) | refine cw6 (fun gg => ?_) | refine cw7 (fun gg => ?_)); try simp only [gg]) | refine cs1 hG rfl ?_ ?_ | refine cs2 hG rfl ?_ ?_ | ((first | refine kg (R15Good_sp e he _ _) rfl hΘ ?_ | refine kg (RNumI_sp e.kind (by omega) n1 _ _) rfl hΘ ?_ | refine kf (fun M n => RNumI_sp e.mask (by omega) n4 M n) rfl (by decide) cl0 hΘ hcl hn0 ?_ | refine kg (hL _ _) rfl hΘ ?_ | refine rga hG (by kernel_rfl) (fun Θ K hΘ hK => ?_) | refine rgb hG (by kernel_rfl) (fun Θ K hΘ hK => ?_) | refine rgc defCl hG (by kernel_rfl) cl0 (by rfl) (by kernel_rfl) (fun Θ K hΘ hcl hn0 hK => ?_) | refine rgd defCl hG (by kernel_rfl) cl0 (by rfl) (by kernel_rfl) (fun Θ K hΘ hcl hn0 hK => ?_)); simp (maxSteps := 2000000) only [go_sem, seval, reduceCtorEq, List.append_eq, hg, k1, k2, k3, hts]) | ((first | refine Post.splitN (fun gg => ?_) (fun gg => ?_) | refine PostB.splitN (fun gg => ?_) (fun gg => ?_) | refine Post.split (fun gg => ?_) (fun gg => ?_) | refine PostB.split (fun gg => ?_) (fun gg => ?_)) <;> simp (maxSteps := 2000000) only [go_sem, seval, reduceCtorEq, List.append_eq, gg, hg, k1, k2, k3, hts]) | (refine finR (by simp only [go_sem, seval, reduceCtorEq, List.append_eq, hg, k1, k2, k3, hts]; exact rfl) ?_; simp only [go_sem, seval, reduceCtorEq, List.append_eq, hg, k1, k2, k3, hts]) | refine updL hM ?_ (by omega) | (with_reducible exact fun _ _ => rfl))
      all_goals (first | omega | (simp only [decide_eq_true_eq, decide_eq_false_iff_not] at *; omega) | (simp only [List.length_append, List.length_cons, List.length_nil] <;> omega) | exact one_bv _ | exact one_sv _ | skip)
  · have hg' : e.good = false := by simpa using hg
    have ht : e.text = [] := if_neg hg
    rw [ht]
    repeat' (first | (with_reducible first | refine pa ?_ | refine pb ?_ | refine pc ?_ | refine nxt_n ?_ | refine nxt_e ?_ | refine nxt_r ?_ | refine blk_n ?_ | refine blk_r ?_ | refine blk_hit ?_ | refine blk_miss (by rfl) ?_ | refine pd ?_ | refine pe ?_ | refine pf ?_ | refine pg ?_ | apply And.intro) | (refine hK _ ?_; first | clear hK K hn0 hcl hΘ Θ | clear hK K hΘ Θ) | (with_reducible first | refine cw1 ?_ | refine cw2 ?_ | exact cw3 | exact cw4) | ((with_reducible first | refine cw5 (fun gg => ?_) | refine cw6 (fun gg => ?_) | refine cw7 (fun gg => ?_)); try simp only [gg]) | refine cs1 hG rfl ?_ ?_ | refine cs2 hG rfl ?_ ?_ | ((first | refine kg (R15Good_sp e he _ _) rfl hΘ ?_ | refine rga hG (by kernel_rfl) (fun Θ K hΘ hK => ?_) | refine rgb hG (by kernel_rfl) (fun Θ K hΘ hK => ?_) | refine rgc defCl hG (by kernel_rfl) cl0 (by rfl) (by kernel_rfl) (fun Θ K hΘ hcl hn0 hK => ?_) | refine rgd defCl hG (by kernel_rfl) cl0 (by rfl) (by kernel_rfl) (fun Θ K hΘ hcl hn0 hK => ?_)); simp (maxSteps := 2000000) only [go_sem, seval, reduceCtorEq, List.append_eq, hg']) | ((first | refine Post.splitN (fun gg => ?_) (fun gg => ?_) | refine PostB.splitN (fun gg => ?_) (fun gg => ?_) | refine Post.split (fun gg => ?_) (fun gg => ?_) | refine PostB.split (fun gg => ?_) (fun gg => ?_)) <;> simp (maxSteps := 2000000) only [go_sem, seval, reduceCtorEq, List.append_eq, gg, hg']) | (refine finR (by simp only [go_sem, seval, reduceCtorEq, List.append_eq, hg']; exact rfl) ?_; simp only [go_sem, seval, reduceCtorEq, List.append_eq, hg']) | refine updL hM ?_ (by omega) | (with_reducible exact fun _ _ => rfl))
    all_goals (first | omega | (simp only [decide_eq_true_eq, decide_eq_false_iff_not] at *; omega) | (simp only [List.length_append, List.length_cons, List.length_nil] <;> omega) | exact one_bv _ | exact one_sv _ | skip)
end Go.VL

set_option linter.unusedVariables false
set_option linter.unusedSimpArgs false
set_option maxRecDepth 100000
set_option maxHeartbeats 8000000
open Go.RowKit
namespace Go.VL
open Go.Proofs
theorem R16num_sp (n : Int) (hn : n < 9223372036854775808) : Rt 92 [.flat (.int .i64 n)] (.flat (.string (bs (numB n.toNat)))) := by
  by_cases h : n < 0
  · have f1 := eq_true h
    have e : n.toNat = 0 := by omega
    have hR := RNum_sp 0 (by omega)
    rw [e]
    intro M mn
    refine fnL (C := kc 7 [] []) (rs := [.tmp 2]) envOk Tryd.func92 (by kernel_rfl) rfl rfl rfl rfl rfl rfl (Low.flat _) ?_
    intro E hG hM
    repeat' (first | (with_reducible first | refine pa ?_ | refine pb ?_ | refine pc ?_ | refine nxt_n ?_ | refine nxt_e ?_ | refine nxt_r ?_ | refine blk_n ?_ | refine blk_r ?_ | refine blk_hit ?_ | refine blk_miss (by rfl) ?_ | refine pd ?_ | refine pe ?_ | refine pf ?_ | refine pg ?_ | apply And.intro) | (refine hK _ ?_; clear hK K hΘ Θ) | (with_reducible first | refine cw1 ?_ | refine cw2 ?_ | exact cw3 | exact cw4) | ((with_reducible first | refine cw5 (fun gg => ?_) | refine cw6 (fun gg => ?_) | refine cw7 (fun gg => ?_)); try simp only [gg]) | refine cs1 hG rfl ?_ ?_ | refine cs2 hG rfl ?_ ?_ | ((first | refine kg (hR _ _) rfl hΘ ?_ | refine rga hG (by kernel_rfl) (fun Θ K hΘ hK => ?_) | refine rgb hG (by kernel_rfl) (fun Θ K hΘ hK => ?_)); simp (maxSteps := 2000000) only [go_sem, seval, reduceCtorEq, f1]) | ((first | refine Post.splitN (fun gg => ?_) (fun gg => ?_) | refine Post.split (fun gg => ?_) (fun gg => ?_)) <;> simp (maxSteps := 2000000) only [go_sem, seval, reduceCtorEq, gg, f1]) | (refine finR (by simp only [go_sem, seval, reduceCtorEq, f1]; exact rfl) ?_; simp only [go_sem, seval, reduceCtorEq, f1]) | refine updL hM ?_ (by omega) | (with_reducible exact fun _ _ => rfl))
    all_goals (first | omega | (simp only [decide_eq_true_eq, decide_eq_false_iff_not] at *; omega) | (simp only [List.length_append, List.length_cons, List.length_nil] <;> omega) | exact one_bv _ | exact one_sv _ | skip)
  · have f1 := eq_false h
    intro M mn
    refine fnL (C := kc 7 [] []) (rs := [.tmp 2]) envOk Tryd.func92 (by kernel_rfl) rfl rfl rfl rfl rfl rfl (Low.flat _) ?_
    intro E hG hM
    repeat' (first | (with_reducible first | refine pa ?_ | refine pb ?_ | refine pc ?_ | refine nxt_n ?_ | refine nxt_e ?_ | refine nxt_r ?_ | refine blk_n ?_ | refine blk_r ?_ | refine blk_hit ?_ | refine blk_miss (by rfl) ?_ | refine pd ?_ | refine pe ?_ | refine pf ?_ | refine pg ?_ | apply And.intro) | (refine hK _ ?_; clear hK K hΘ Θ) | (with_reducible first | refine cw1 ?_ | refine cw2 ?_ | exact cw3 | exact cw4) | ((with_reducible first | refine cw5 (fun gg => ?_) | refine cw6 (fun gg => ?_) | refine cw7 (fun gg => ?_)); try simp only [gg]) | refine cs1 hG rfl ?_ ?_ | refine cs2 hG rfl ?_ ?_ | ((first | refine kg (RNumI_sp n (by omega) hn _ _) rfl hΘ ?_ | refine rga hG (by kernel_rfl) (fun Θ K hΘ hK => ?_) | refine rgb hG (by kernel_rfl) (fun Θ K hΘ hK => ?_)); simp (maxSteps := 2000000) only [go_sem, seval, reduceCtorEq, f1]) | ((first | refine Post.splitN (fun gg => ?_) (fun gg => ?_) | refine Post.split (fun gg => ?_) (fun gg => ?_)) <;> simp (maxSteps := 2000000) only [go_sem, seval, reduceCtorEq, gg, f1]) | (refine finR (by simp only [go_sem, seval, reduceCtorEq, f1]; exact rfl) ?_; simp only [go_sem, seval, reduceCtorEq, f1]) | refine updL hM ?_ (by omega) | (with_reducible exact fun _ _ => rfl))
    all_goals (first | omega | (simp only [decide_eq_true_eq, decide_eq_false_iff_not] at *; omega) | (simp only [List.length_append, List.length_cons, List.length_nil] <;> omega) | exact one_bv _ | exact one_sv _ | skip)
theorem R16AuText_sp (a : Au) (ha : a.ok) (hs : a.sig.length ≤ 1000000) : Rt 54 [.agg a.c] (.flat (.string (bs a.text))) := by
  have n1 : a.node < 9223372036854775808 := by have := ha.1.2; omega
  have n2 : a.seq < 9223372036854775808 := by have := ha.2.1.2; omega
  have t1 := Au.total_le ha hs
  have tb := take_bv32 a.hash
  have hL := RList_sp a.parts (by omega) (by omega)
  simp only [Au.parts] at hL
  intro M mn
  refine fnL (C := kc 16 [] []) (rs := [.tmp 2]) envOk Tryd.func54 (by kernel_rfl) rfl rfl rfl rfl rfl rfl (Low.flat _) ?_
  intro E hG hM
  repeat' (first | (with_reducible first | refine pa ?_ | refine pb ?_ | refine pc ?_ | refine nxt_n ?_ | refine nxt_e ?_ | refine nxt_r ?_ | refine blk_n ?_ | refine blk_r ?_ | refine blk_hit ?_ | refine blk_miss (by rfl) ?_ | refine pd ?_ | refine pe ?_ | refine pf ?_ | refine pg ?_ | apply And.intro) | (refine hK _ ?_; first | clear hK K hn0 hcl hΘ Θ | clear hK K hΘ Θ) | (with_reducible first | refine cw1 ?_ | refine cw2 ?_ | exact cw3 | exact cw4) | ((with_reducible first | refine cw5 (fun gg => ?_) | refine cw6 (fun gg => ?_) | refine cw7 (fun gg => ?_)); try simp only [gg]) | refine cs1 hG rfl ?_ ?_ | refine cs2 hG rfl ?_ ?_ | ((first | refine kf (fun M n => R16num_sp a.node n1 M n) rfl (by decide) cl0 hΘ hcl hn0 ?_ | refine kf (fun M n => R16num_sp a.seq n2 M n) rfl (by decide) cl0 hΘ hcl hn0 ?_ | refine kf (fun M n => hL M n) rfl (by decide) cl0 hΘ hcl hn0 ?_ | refine rga hG (by kernel_rfl) (fun Θ K hΘ hK => ?_) | refine rgb hG (by kernel_rfl) (fun Θ K hΘ hK => ?_) | refine rgc defCl hG (by kernel_rfl) cl0 (by rfl) (by kernel_rfl) (fun Θ K hΘ hcl hn0 hK => ?_) | refine rgd defCl hG (by kernel_rfl) cl0 (by rfl) (by kernel_rfl) (fun Θ K hΘ hcl hn0 hK => ?_)); simp (maxSteps := 2000000) only [go_sem, seval, reduceCtorEq, tb]) | ((first | refine Post.splitN (fun gg => ?_) (fun gg => ?_) | refine PostB.splitN (fun gg => ?_) (fun gg => ?_) | refine Post.split (fun gg => ?_) (fun gg => ?_) | refine PostB.split (fun gg => ?_) (fun gg => ?_)) <;> simp (maxSteps := 2000000) only [go_sem, seval, reduceCtorEq, gg, tb]) | (refine finR (by simp only [go_sem, seval, reduceCtorEq, tb]; exact rfl) ?_; simp only [go_sem, seval, reduceCtorEq, tb]) | refine updL hM ?_ (by omega) | (with_reducible exact fun _ _ => rfl))
  all_goals (first | omega | (simp only [decide_eq_true_eq, decide_eq_false_iff_not] at *; omega) | (simp only [List.length_append, List.length_cons, List.length_nil] <;> omega) | exact one_bv _ | exact one_sv _ | skip)
  all_goals rfl
end Go.VL

set_option linter.unusedVariables false
set_option linter.unusedSimpArgs false
set_option maxRecDepth 100000
set_option maxHeartbeats 8000000
open Go.RowKit
namespace Go.VL
open Go.Proofs
def hashL (l : List Ent) : List Id32 := z32 :: walkL z32 1 l
def lgC (node : Int) (kb : Nat) (l : List Ent) : List V := [.flat (.int .i64 node), .bp kb 0, .sl true 73 l.length (Ent.lC l), .sl true 32 (l.length + 1) (idsC (hashL l))]
theorem hashL_len (l : List Ent) : (hashL l).length = l.length + 1 := by simp [hashL, walkL_len]
theorem hashL_get (l : List Ent) (i : Nat) (hi : i ≤ l.length) : (hashL l).getD i z32 = lastL z32 1 (l.take i) := by
  induction i with
  | zero => simp [hashL, lastL_nil]
  | succ i ih =>
    rw [lastL_take l z32 1 i ent0 (by omega)]
    unfold hashL
    rw [List.getD_cons_succ]
    have h1 := walkL_take l z32 1 i ent0 (by omega)
    have h2 : (walkL z32 1 l) = walkL z32 1 (l.take (i + 1)) ++ walkL (lastL z32 1 (l.take (i + 1))) (1 + ((l.take (i + 1)).length : Int)) (l.drop (i + 1)) := by
      rw [← walkL_app, List.take_append_drop]
    rw [h2, h1, List.getD_eq_getElem?_getD, List.getElem?_append_left (by simp [walkL_len]; omega), List.getElem?_append_right (by rw [walkL_len, List.length_take]; exact Nat.min_le_left _ _)]
    simp [walkL_len, Nat.min_eq_left (show i ≤ l.length by omega)]
theorem ids_get (l : List Id32) (i : Nat) (hi : i < l.length) : ((idsC l).drop (i * 32)).take 32 = bv (l.getD i z32).1 := by
  unfold idsC
  rw [flat_chunk 32 _ i (fun c hc => by obtain ⟨x, _, rfl⟩ := List.mem_map.1 hc; rw [bv_length]; exact x.2) (by simpa using hi)]
  simp [List.getD_eq_getElem?_getD, hi]
theorem hashL_app (l es : List Ent) : idsC (hashL l) ++ idsC (walkL (lastL z32 1 l) (l.length + 1) es) = idsC (hashL (l ++ es)) := by
  unfold hashL
  rw [walkL_app, show (1 : Int) + (l.length : Int) = (l.length : Int) + 1 by omega]
  simp [idsC]
theorem Ent.lone (l : List Ent) : (∀ z ∈ Ent.lC l, oneB z = true) = True := eq_true fun z hz => by
  obtain ⟨c, hc, hz⟩ := List.mem_flatten.1 hz
  obtain ⟨e, _, rfl⟩ := List.mem_map.1 hc
  exact of_eq_true (Ent.one e) z hz
theorem ids_one (l : List Id32) : (∀ z ∈ idsC l, oneB z = true) = True := eq_true fun z hz => by
  obtain ⟨c, hc, hz⟩ := List.mem_flatten.1 hz
  obtain ⟨e, _, rfl⟩ := List.mem_map.1 hc
  exact one_bv _ z hz
theorem ent_app (l es : List Ent) : Ent.lC l ++ Ent.lC es = Ent.lC (l ++ es) := by simp [Ent.lC]
theorem badA_sp (e : Ent) (he : e.ok) : Rt 81 [.agg e.c] (.flat (.bool (!e.good))) := by
  intro M mn
  refine fnL (C := kc 6 [] []) (rs := [.tmp 2]) envOk Tryd.func81 (by kernel_rfl) rfl rfl rfl rfl rfl rfl (Low.flat _) ?_
  intro E hG hM
  repeat' (first | (with_reducible first | refine pa ?_ | refine pb ?_ | refine pc ?_ | refine nxt_n ?_ | refine nxt_e ?_ | refine nxt_r ?_ | refine blk_n ?_ | refine blk_r ?_ | refine blk_hit ?_ | refine blk_miss (by rfl) ?_ | refine pd ?_ | refine pe ?_ | refine pf ?_ | refine pg ?_ | apply And.intro) | (refine hK _ ?_; clear hK K hΘ Θ) | (with_reducible first | refine cw1 ?_ | refine cw2 ?_ | exact cw3 | exact cw4) | ((with_reducible first | refine cw5 (fun gg => ?_) | refine cw6 (fun gg => ?_) | refine cw7 (fun gg => ?_)); try simp only [gg]) | refine cs1 hG rfl ?_ ?_ | refine cs2 hG rfl ?_ ?_ | ((first | refine kg (EGood_sp e he _ _) rfl hΘ ?_ | refine rga hG (by kernel_rfl) (fun Θ K hΘ hK => ?_) | refine rgb hG (by kernel_rfl) (fun Θ K hΘ hK => ?_)); simp (maxSteps := 2000000) only [go_sem, seval, reduceCtorEq]) | ((first | refine Post.splitN (fun gg => ?_) (fun gg => ?_) | refine Post.split (fun gg => ?_) (fun gg => ?_)) <;> simp (maxSteps := 2000000) only [go_sem, seval, reduceCtorEq, gg]) | (refine finR (by simp only [go_sem, seval, reduceCtorEq]; exact rfl) ?_; simp only [go_sem, seval, reduceCtorEq]) | refine updL hM ?_ (by omega) | (with_reducible exact fun _ _ => rfl))
  all_goals (first | omega | (simp only [decide_eq_true_eq, decide_eq_false_iff_not] at *; omega) | (simp only [List.length_append, List.length_cons, List.length_nil] <;> omega) | exact one_bv _ | exact one_sv _ | skip)
theorem LNew_sp (node : Int) (h0 : 0 ≤ node) (h5 : node < 5) (kb : Nat) (s : List UInt8) (h : Nat) (M : Mem) (mn : Nat) (hk : M kb = some (kyV s h).c) (hM : ∀ k, mn ≤ k → M k = none) :
    Sp Tryd.prog GL 45 [.flat (.int .i64 node), .bp kb 0] M mn (fun r m k => r = .tup [.bp (mn + 1) 0, .flat (.int .i64 0)] ∧ m = upd M (mn + 1) (some (lgC node kb [])) ∧ k = mn + 1 + 1) := by
  have f1 : (node < 0) = False := eq_false (by omega)
  have f2 : (node ≥ 5) = False := eq_false (by omega)
  have tz := take_bv32 z32
  have base : Sp Tryd.prog GL 45 [.flat (.int .i64 node), .bp kb 0] M mn (fun r m k => r = .tup [.bp (mn + 1) 0, .flat (.int .i64 0)] ∧ m = upd (upd M mn (some (bv z32.1))) (mn + 1) (some [.flat (.int .i64 node), .bp kb 0, .nil, .bs mn 0 1 1]) ∧ k = mn + 1 + 1) := by
    refine fnP (C := kc 22 [] [19]) (rs := [.tmp 4, .tmp 5]) envOk Tryd.func45 (by kernel_rfl) rfl rfl rfl rfl rfl rfl ?_
    intro E hG hM
    repeat' (first | (with_reducible first | refine pa ?_ | refine pb ?_ | refine pc ?_ | refine nxt_n ?_ | refine nxt_e ?_ | refine nxt_r ?_ | refine blk_n ?_ | refine blk_r ?_ | refine blk_hit ?_ | refine blk_miss (by rfl) ?_ | refine pd ?_ | refine pe ?_ | refine pf ?_ | refine pg ?_ | apply And.intro) | (refine hK _ ?_; clear hK K hΘ Θ) | (with_reducible first | refine cw1 ?_ | refine cw2 ?_ | exact cw3 | exact cw4) | ((with_reducible first | refine cw5 (fun gg => ?_) | refine cw6 (fun gg => ?_) | refine cw7 (fun gg => ?_)); try simp only [gg]) | refine cs1 hG rfl ?_ ?_ | refine cs2 hG rfl ?_ ?_ | ((first | refine rga hG (by kernel_rfl) (fun Θ K hΘ hK => ?_) | refine rgb hG (by kernel_rfl) (fun Θ K hΘ hK => ?_)); simp (maxSteps := 2000000) only [go_sem, seval, reduceCtorEq, f1, f2, tz]) | ((first | refine Post.splitN (fun gg => ?_) (fun gg => ?_) | refine Post.split (fun gg => ?_) (fun gg => ?_)) <;> simp (maxSteps := 2000000) only [go_sem, seval, reduceCtorEq, gg, f1, f2, tz]) | (refine finR (by simp only [go_sem, seval, reduceCtorEq, f1, f2, tz]; exact rfl) ?_; simp only [go_sem, seval, reduceCtorEq, f1, f2, tz]) | refine updL hM ?_ (by omega) | (with_reducible exact fun _ _ => rfl))
    all_goals (first | omega | (simp only [decide_eq_true_eq, decide_eq_false_iff_not] at *; omega) | (simp only [List.length_append, List.length_cons, List.length_nil] <;> omega) | exact one_bv _ | exact one_sv _ | skip)
  refine Sp.ghost base (fun r m k hR => ?_)
  obtain ⟨rfl, rfl, rfl⟩ := hR
  refine ⟨_, ⟨rfl, rfl, rfl⟩, fun {E g ob st tm w} hst hmn => ?_⟩
  obtain ⟨g', e1, h1⟩ := hst.cellFull (b := mn + 1) (off := 3) (hb := mn) (n := 1) (sz := 32) (cs := bv z32.1) (l := [.flat (.int .i64 node), .bp kb 0, .nil, .bs mn 0 1 1]) (upd_same _ _ _) (by simp) rfl (by rw [upd_ne _ _ (by omega), upd_same]) (by omega) (by rw [bv_length, z32.2]) (by unfold maxLen; omega)
  have h2 := h1.cellNil (b := mn + 1) (off := 2) 73 (upd_same _ _ _) (by simp [putV]) rfl
  refine ⟨g', e1, ?_⟩
  have e : upd (upd (upd (upd (upd M mn (some (bv z32.1))) (mn + 1) (some [.flat (.int .i64 node), .bp kb 0, .nil, .bs mn 0 1 1])) mn none) (mn + 1) (some (putV [.flat (.int .i64 node), .bp kb 0, .nil, .bs mn 0 1 1] 3 [.sl true 32 1 (bv z32.1)]))) (mn + 1) (some (putV (putV [.flat (.int .i64 node), .bp kb 0, .nil, .bs mn 0 1 1] 3 [.sl true 32 1 (bv z32.1)]) 2 [.sl true 73 0 []])) = upd M (mn + 1) (some (lgC node kb [])) := by
    funext b
    by_cases q1 : b = mn + 1
    · subst q1
      rw [upd_same, upd_same]; rfl
    · rw [upd_ne _ _ q1, upd_ne _ _ q1, upd_ne _ _ q1]
      by_cases q2 : b = mn
      · subst q2; rw [upd_same, hM b (Nat.le_refl _)]
      · rw [upd_ne _ _ q2, upd_ne _ _ q1, upd_ne _ _ q2]
  rw [e] at h2
  exact h2
theorem LLen_sp (node : Int) (kb b : Nat) (l : List Ent) (M : Mem) (mn : Nat) (hb : M b = some (lgC node kb l)) : Sp Tryd.prog GL 41 [.bp b 0] M mn (fun r m k => r = .flat (.int .i64 l.length) ∧ m = M ∧ k = mn) := by
  unfold lgC at hb
  refine fnP (C := kc 10 [] []) (rs := [.tmp 2]) envOk Tryd.func41 (by kernel_rfl) rfl rfl rfl rfl rfl rfl ?_
  intro E hG hM
  repeat' (first | (with_reducible first | refine pa ?_ | refine pb ?_ | refine pc ?_ | refine nxt_n ?_ | refine nxt_e ?_ | refine nxt_r ?_ | refine blk_n ?_ | refine blk_r ?_ | refine blk_hit ?_ | refine blk_miss (by rfl) ?_ | refine pd ?_ | refine pe ?_ | refine pf ?_ | refine pg ?_ | apply And.intro) | (refine hK _ ?_; clear hK K hΘ Θ) | (with_reducible first | refine cw1 ?_ | refine cw2 ?_ | exact cw3 | exact cw4) | ((with_reducible first | refine cw5 (fun gg => ?_) | refine cw6 (fun gg => ?_) | refine cw7 (fun gg => ?_)); try simp only [gg]) | refine cs1 hG rfl ?_ ?_ | refine cs2 hG rfl ?_ ?_ | ((first | refine rga hG (by kernel_rfl) (fun Θ K hΘ hK => ?_) | refine rgb hG (by kernel_rfl) (fun Θ K hΘ hK => ?_)); simp (maxSteps := 2000000) only [go_sem, seval, reduceCtorEq, hb]) | ((first | refine Post.splitN (fun gg => ?_) (fun gg => ?_) | refine Post.split (fun gg => ?_) (fun gg => ?_)) <;> simp (maxSteps := 2000000) only [go_sem, seval, reduceCtorEq, gg, hb]) | (refine finR (by simp only [go_sem, seval, reduceCtorEq, hb]; exact rfl) ?_; simp only [go_sem, seval, reduceCtorEq, hb]) | refine updL hM ?_ (by omega) | (with_reducible exact fun _ _ => rfl))
  all_goals (first | omega | (simp only [decide_eq_true_eq, decide_eq_false_iff_not] at *; omega) | (simp only [List.length_append, List.length_cons, List.length_nil] <;> omega) | exact one_bv _ | exact one_sv _ | skip)
theorem LLeft_sp (node : Int) (kb b : Nat) (s : List UInt8) (h : Nat) (h8 : h ≤ 8) (l : List Ent) (hl : l.length ≤ 2 ^ h) (M : Mem) (mn : Nat) (hk : M kb = some (kyV s h).c) (hb : M b = some (lgC node kb l)) : Sp Tryd.prog GL 42 [.bp b 0] M mn (fun r m k => r = .flat (.int .i64 (2 ^ h - l.length : Nat)) ∧ m = M ∧ k = mn) := by
  unfold lgC at hb
  have hp := pow_le8 h h8
  have v1 : IntKind.i64.wrap (((2 ^ h : Nat) : Int) - (l.length : Int)) = ((2 ^ h - l.length : Nat) : Int) := by rw [wi (by omega) (by omega)]; omega
  refine fnP (C := kc 16 [] []) (rs := [.tmp 2]) envOk Tryd.func42 (by kernel_rfl) rfl rfl rfl rfl rfl rfl ?_
  intro E hG hM
  have hlt := box_lt hM hb
  have hlk := box_lt hM hk
  repeat' (first | (with_reducible first | refine pa ?_ | refine pb ?_ | refine pc ?_ | refine nxt_n ?_ | refine nxt_e ?_ | refine nxt_r ?_ | refine blk_n ?_ | refine blk_r ?_ | refine blk_hit ?_ | refine blk_miss (by rfl) ?_ | refine pd ?_ | refine pe ?_ | refine pf ?_ | refine pg ?_ | apply And.intro) | (refine hK _ ?_; first | clear hK K hn0 hcl hΘ Θ | clear hK K hΘ Θ) | (with_reducible first | refine cw1 ?_ | refine cw2 ?_ | exact cw3 | exact cw4) | ((with_reducible first | refine cw5 (fun gg => ?_) | refine cw6 (fun gg => ?_) | refine cw7 (fun gg => ?_)); try simp only [gg]) | refine cs1 hG rfl ?_ ?_ | refine cs2 hG rfl ?_ ?_ | ((first | refine kr ([kb]) (fun M n hA => Count_sp kb s h h8 M n ((hA kb (by simp)).trans hk)) (by first | exact .inl rfl | (refine .inr ⟨rfl, ?_⟩; rw [hn0]; first | (simp; done) | (simp; omega))) rfl (clW_le (by rfl)) hΘ hcl hn0 ?_ | refine rga hG (by kernel_rfl) (fun Θ K hΘ hK => ?_) | refine rgb hG (by kernel_rfl) (fun Θ K hΘ hK => ?_) | refine rgc (clW [(4, 4), (8, 8)] defCl) hG (by kernel_rfl) (clW_le (by rfl)) (by rfl) (by kernel_rfl) (fun Θ K hΘ hcl hn0 hK => ?_) | refine rgd (clW [(4, 4), (8, 8)] defCl) hG (by kernel_rfl) (clW_le (by rfl)) (by rfl) (by kernel_rfl) (fun Θ K hΘ hcl hn0 hK => ?_)); simp (maxSteps := 2000000) only [go_sem, seval, reduceCtorEq, hb, v1]) | ((first | refine Post.splitN (fun gg => ?_) (fun gg => ?_) | refine PostB.splitN (fun gg => ?_) (fun gg => ?_) | refine Post.split (fun gg => ?_) (fun gg => ?_) | refine PostB.split (fun gg => ?_) (fun gg => ?_)) <;> simp (maxSteps := 2000000) only [go_sem, seval, reduceCtorEq, gg, hb, v1]) | (refine finR (by simp only [go_sem, seval, reduceCtorEq, hb, v1]; exact rfl) ?_; simp only [go_sem, seval, reduceCtorEq, hb, v1]) | refine updL hM ?_ (by omega) | (with_reducible exact fun _ _ => rfl))
  all_goals (first | omega | (simp only [decide_eq_true_eq, decide_eq_false_iff_not] at *; omega) | (simp only [List.length_append, List.length_cons, List.length_nil] <;> omega) | exact one_bv _ | exact one_sv _ | skip)
theorem LAppend_sp (node : Int) (kb b : Nat) (s : List UInt8) (h : Nat) (h8 : h ≤ 8) (l es : List Ent) (hok : ∀ e ∈ es, e.ok) (hg : ∀ e ∈ es, e.good = true) (hn : l.length + es.length ≤ 2 ^ h) (M : Mem) (mn : Nat) (hk : M kb = some (kyV s h).c) (hb : M b = some (lgC node kb l)) (hbm : b < mn) :
    Sp Tryd.prog GL 40 [.bp b 0, .sl false 73 es.length (Ent.lC es)] M mn (fun r m k => r = .flat (.int .i64 0) ∧ m = upd M b (some (lgC node kb (l ++ es))) ∧ k = mn) := by
  have hp := pow_le8 h h8
  have hbl := hb
  unfold lgC at hb
  have cC := ContE_sp 81 (fun e => !e.good) badA_sp es hok (by omega)
  have hany : es.any (fun e => !e.good) = false := by
    rw [List.any_eq_false]
    intro e he
    rw [hg e he]; simp
  rw [hany] at cC
  have g1 : ((es.length : Int) > ((2 ^ h - l.length : Nat) : Int)) = False := eq_false (by omega)
  have g2 : (l.length < l.length + 1) = True := eq_true (by omega)
  have hlen := ids_len (hashL l)
  rw [hashL_len] at hlen
  have hget := ids_get (hashL l) l.length (by rw [hashL_len]; omega)
  rw [hashL_get l l.length (Nat.le_refl _), List.take_length] at hget
  have g3 : (l.length * 32 + 32 ≤ (l.length + 1) * 32) = True := eq_true (by omega)
  have v1 := wi1 (n := l.length) (by omega)
  have hll := Ent.l_len l
  have hle := Ent.l_len es
  have hW := CWalk_sp (lastL z32 1 l) (l.length + 1 : Nat) es hok (by omega) (by unfold inR; omega) (by omega)
  have hwl := ids_len (walkL (lastL z32 1 l) (l.length + 1 : Nat) es)
  rw [walkL_len] at hwl
  have hA1 := hashL_app l es
  have hA2 := ent_app l es
  rw [show ((l.length : Int) + 1) = ((l.length + 1 : Nat) : Int) by omega] at hA1
  have hlg : lgC node kb (l ++ es) = [.flat (.int .i64 node), .bp kb 0, .sl true 73 (l ++ es).length (Ent.lC (l ++ es)), .sl true 32 ((l ++ es).length + 1) (idsC (hashL (l ++ es)))] := rfl
  have o1 := Ent.lone es
  have o2 := ids_one (walkL (lastL z32 1 l) (l.length + 1 : Nat) es)
  have e1 : l.length + 1 + es.length = (l ++ es).length + 1 := by rw [List.length_append]; omega
  have e2 : l.length + es.length = (l ++ es).length := by rw [List.length_append]
  refine fnP (C := kc 53 [21, 41, 48, 50] []) (rs := [.tmp 4]) envOk Tryd.func40 (by kernel_rfl) rfl rfl rfl rfl rfl rfl ?_
  intro E hG hM
  repeat' (first | (with_reducible first | refine pa ?_ | refine pb ?_ | refine pc ?_ | refine nxt_n ?_ | refine nxt_e ?_ | refine nxt_r ?_ | refine blk_n ?_ | refine blk_r ?_ | refine blk_hit ?_ | refine blk_miss (by rfl) ?_ | refine pd ?_ | refine pe ?_ | refine pf ?_ | refine pg ?_ | apply And.intro) | (refine hK _ ?_; first | clear hK K hn0 hcl hΘ Θ | clear hK K hΘ Θ) | (with_reducible first | refine cw1 ?_ | refine cw2 ?_ | exact cw3 | exact cw4) | ((with_reducible first | refine cw5 (fun gg => ?_) | refine cw6 (fun gg => ?_) | refine cw7 (fun gg => ?_)); try simp only [gg]) | refine cs1 hG rfl ?_ ?_ | refine cs2 hG rfl ?_ ?_ | ((fail_if_success (with_reducible first | show WC _ _ _ (.region 7 _ _) _ _ | show WC _ _ _ (.seq (.region 7 _ _) _) _ _)); (first | refine kg (cC _ _) rfl hΘ ?_ | refine kg (LLeft_sp node kb b s h h8 l (by omega) _ _ hk hbl) rfl hΘ ?_ | refine rga hG (by kernel_rfl) (fun Θ K hΘ hK => ?_) | refine rgb hG (by kernel_rfl) (fun Θ K hΘ hK => ?_) | refine rgc defCl hG (by kernel_rfl) cl0 (by rfl) (by kernel_rfl) (fun Θ K hΘ hcl hn0 hK => ?_) | refine rgd defCl hG (by kernel_rfl) cl0 (by rfl) (by kernel_rfl) (fun Θ K hΘ hcl hn0 hK => ?_)); simp (maxSteps := 2000000) only [go_sem, seval, reduceCtorEq, List.append_eq, hb, g1]) | ((first | refine Post.splitN (fun gg => ?_) (fun gg => ?_) | refine PostB.splitN (fun gg => ?_) (fun gg => ?_) | refine Post.split (fun gg => ?_) (fun gg => ?_) | refine PostB.split (fun gg => ?_) (fun gg => ?_)) <;> simp (maxSteps := 2000000) only [go_sem, seval, reduceCtorEq, List.append_eq, gg, hb, g1]) | (refine finR (by simp only [go_sem, seval, reduceCtorEq, List.append_eq, hb, g1]; exact rfl) ?_; simp only [go_sem, seval, reduceCtorEq, List.append_eq, hb, g1]) | refine updL hM ?_ (by omega) | (with_reducible exact fun _ _ => rfl))
  all_goals (first | omega | (simp only [decide_eq_true_eq, decide_eq_false_iff_not] at *; omega) | (simp only [List.length_append, List.length_cons, List.length_nil] <;> omega) | exact one_bv _ | exact one_sv _ | skip)
  repeat' (first | (with_reducible first | refine pa ?_ | refine pb ?_ | refine pc ?_ | refine nxt_n ?_ | refine nxt_e ?_ | refine nxt_r ?_ | refine blk_n ?_ | refine blk_r ?_ | refine blk_hit ?_ | refine blk_miss (by rfl) ?_ | refine pd ?_ | refine pe ?_ | refine pf ?_ | refine pg ?_ | apply And.intro) | (refine hK _ ?_; first | clear hK K hn0 hcl hΘ Θ | clear hK K hΘ Θ) | (with_reducible first | refine cw1 ?_ | refine cw2 ?_ | exact cw3 | exact cw4) | ((with_reducible first | refine cw5 (fun gg => ?_) | refine cw6 (fun gg => ?_) | refine cw7 (fun gg => ?_)); try simp only [gg]) | refine cs1 hG rfl ?_ ?_ | refine cs2 hG rfl ?_ ?_ | ((first | refine kf (fun M n => hW M n) rfl (by decide) (clW_le (by rfl)) hΘ hcl hn0 ?_ | refine rga hG (by kernel_rfl) (fun Θ K hΘ hK => ?_) | refine rgb hG (by kernel_rfl) (fun Θ K hΘ hK => ?_) | refine rgc (clW [(4, 7), (8, 8), (12, 8), (15, 0), (19, 8)] defCl) hG (by kernel_rfl) (clW_le (by rfl)) (by rfl) (by kernel_rfl) (fun Θ K hΘ hcl hn0 hK => ?_) | refine rgd (clW [(4, 7), (8, 8), (12, 8), (15, 0), (19, 8)] defCl) hG (by kernel_rfl) (clW_le (by rfl)) (by rfl) (by kernel_rfl) (fun Θ K hΘ hcl hn0 hK => ?_)); simp (maxSteps := 2000000) only [go_sem, seval, reduceCtorEq, List.append_eq, hb, g2, hlen, hget, g3, v1, hll, hle, hwl, hA1, hA2, e1, e2, hlg, o1, o2]) | ((first | refine Post.splitN (fun gg => ?_) (fun gg => ?_) | refine PostB.splitN (fun gg => ?_) (fun gg => ?_) | refine Post.split (fun gg => ?_) (fun gg => ?_) | refine PostB.split (fun gg => ?_) (fun gg => ?_)) <;> simp (maxSteps := 2000000) only [go_sem, seval, reduceCtorEq, List.append_eq, gg, hb, g2, hlen, hget, g3, v1, hll, hle, hwl, hA1, hA2, e1, e2, hlg, o1, o2]) | (refine finR (by simp only [go_sem, seval, reduceCtorEq, List.append_eq, hb, g2, hlen, hget, g3, v1, hll, hle, hwl, hA1, hA2, e1, e2, hlg, o1, o2]; exact rfl) ?_; simp only [go_sem, seval, reduceCtorEq, List.append_eq, hb, g2, hlen, hget, g3, v1, hll, hle, hwl, hA1, hA2, e1, e2, hlg, o1, o2]) | refine updL hM ?_ (by omega) | (with_reducible exact fun _ _ => rfl))
  all_goals (first | omega | (simp only [decide_eq_true_eq, decide_eq_false_iff_not] at *; omega) | (simp only [List.length_append, List.length_cons, List.length_nil] <;> omega) | exact one_bv _ | exact one_sv _ | skip)
theorem auT3 (a : Au) (v : Value) : Low (.tup [.agg a.c, .flat v]) := lowTup (lowC1 (lowAgg (Au.flat a)) (lowC1 (Low.flat _) lowC0))
theorem idT3 (x : Id32) (v : Value) : Low (.tup [.agg (bv x.1), .flat v]) := lowTup (lowC1 (lowAgg (FlatS.bv _)) (lowC1 (Low.flat _) lowC0))
theorem LHash_none (node : Int) (kb b : Nat) (l : List Ent) (q : Int) (hq : (l.length : Int) < q) (M : Mem) (mn : Nat) (hb : M b = some (lgC node kb l)) : Sp Tryd.prog GL 44 [.bp b 0, .flat (.int .i64 q)] M mn (fun r m k => r = .tup [.agg (bv z32.1), .flat (.int .i64 5)] ∧ m = M ∧ k = mn) := by
  unfold lgC at hb
  have f1 : (q < 0) = False := eq_false (by omega)
  have f2 : (q > (l.length : Int)) = True := eq_true (by omega)
  have tz := take_bv32 z32
  refine fnL (C := kc 30 [] []) (rs := [.cell 4 52, .tmp 5]) envOk Tryd.func44 (by kernel_rfl) rfl rfl rfl rfl rfl rfl (idT3 _ _) ?_
  intro E hG hM
  have hlt := box_lt hM hb
  have u1 : ∀ z, upd M mn z b = M b := fun z => upd_ne _ _ (by omega)
  repeat' (first | (with_reducible first | refine pa ?_ | refine pb ?_ | refine pc ?_ | refine nxt_n ?_ | refine nxt_e ?_ | refine nxt_r ?_ | refine blk_n ?_ | refine blk_r ?_ | refine blk_hit ?_ | refine blk_miss (by rfl) ?_ | refine pd ?_ | refine pe ?_ | refine pf ?_ | refine pg ?_ | apply And.intro) | (refine hK _ ?_; clear hK K hΘ Θ) | (with_reducible first | refine cw1 ?_ | refine cw2 ?_ | exact cw3 | exact cw4) | ((with_reducible first | refine cw5 (fun gg => ?_) | refine cw6 (fun gg => ?_) | refine cw7 (fun gg => ?_)); try simp only [gg]) | refine cs1 hG rfl ?_ ?_ | refine cs2 hG rfl ?_ ?_ | ((first | refine rga hG (by kernel_rfl) (fun Θ K hΘ hK => ?_) | refine rgb hG (by kernel_rfl) (fun Θ K hΘ hK => ?_)); simp (maxSteps := 2000000) only [go_sem, seval, reduceCtorEq, f1, f2, hb, u1, tz]) | ((first | refine Post.splitN (fun gg => ?_) (fun gg => ?_) | refine Post.split (fun gg => ?_) (fun gg => ?_)) <;> simp (maxSteps := 2000000) only [go_sem, seval, reduceCtorEq, gg, f1, f2, hb, u1, tz]) | (refine finR (by simp only [go_sem, seval, reduceCtorEq, f1, f2, hb, u1, tz]; exact rfl) ?_; simp only [go_sem, seval, reduceCtorEq, f1, f2, hb, u1, tz]) | refine updL hM ?_ (by omega) | (with_reducible exact fun _ _ => rfl))
  all_goals (first | omega | (simp only [decide_eq_true_eq, decide_eq_false_iff_not] at *; omega) | (simp only [List.length_append, List.length_cons, List.length_nil] <;> omega) | exact one_bv _ | exact one_sv _ | skip)
theorem LAuth_none (node : Int) (kb b : Nat) (l : List Ent) (q : Int) (hq : (l.length : Int) < q) (M : Mem) (mn : Nat) (hb : M b = some (lgC node kb l)) : Sp Tryd.prog GL 39 [.bp b 0, .flat (.int .i64 q)] M mn (fun r m k => r = .tup [.agg au0.c, .flat (.int .i64 5)] ∧ m = M ∧ k = mn) := by
  refine fnL (C := kc 50 [] []) (rs := [.cell 4 64, .tmp 5]) envOk Tryd.func39 (by kernel_rfl) rfl rfl rfl rfl rfl rfl (auT3 _ _) ?_
  intro E hG hM
  have hlt := box_lt hM hb
  have u5 : ∀ (m : Mem) x, upd m (mn + 1) x mn = m mn := fun m x => upd_ne _ _ (by omega)
  have cH := LHash_none node kb b l q hq (upd M mn (some au0.c)) (mn + 1) (by rw [upd_ne _ _ (show b ≠ mn by omega)]; exact hb)
  repeat' (first | (with_reducible first | refine pa ?_ | refine pb ?_ | refine pc ?_ | refine nxt_n ?_ | refine nxt_e ?_ | refine nxt_r ?_ | refine blk_n ?_ | refine blk_r ?_ | refine blk_hit ?_ | refine blk_miss (by rfl) ?_ | refine pd ?_ | refine pe ?_ | refine pf ?_ | refine pg ?_ | apply And.intro) | (refine hK _ ?_; first | clear hK K hn0 hcl hΘ Θ | clear hK K hΘ Θ) | (with_reducible first | refine cw1 ?_ | refine cw2 ?_ | exact cw3 | exact cw4) | ((with_reducible first | refine cw5 (fun gg => ?_) | refine cw6 (fun gg => ?_) | refine cw7 (fun gg => ?_)); try simp only [gg]) | refine cs1 hG rfl ?_ ?_ | refine cs2 hG rfl ?_ ?_ | ((first | refine kg (cH) rfl hΘ ?_ | refine rga hG (by kernel_rfl) (fun Θ K hΘ hK => ?_) | refine rgb hG (by kernel_rfl) (fun Θ K hΘ hK => ?_) | refine rgc defCl hG (by kernel_rfl) cl0 (by rfl) (by kernel_rfl) (fun Θ K hΘ hcl hn0 hK => ?_) | refine rgd defCl hG (by kernel_rfl) cl0 (by rfl) (by kernel_rfl) (fun Θ K hΘ hcl hn0 hK => ?_)); simp (maxSteps := 2000000) only [go_sem, seval, reduceCtorEq, u5]) | ((first | refine Post.splitN (fun gg => ?_) (fun gg => ?_) | refine PostB.splitN (fun gg => ?_) (fun gg => ?_) | refine Post.split (fun gg => ?_) (fun gg => ?_) | refine PostB.split (fun gg => ?_) (fun gg => ?_)) <;> simp (maxSteps := 2000000) only [go_sem, seval, reduceCtorEq, gg, u5]) | (refine finR (by simp only [go_sem, seval, reduceCtorEq, u5]; exact rfl) ?_; simp only [go_sem, seval, reduceCtorEq, u5]) | refine updL hM ?_ (by omega) | (with_reducible exact fun _ _ => rfl))
  all_goals (first | omega | (simp only [decide_eq_true_eq, decide_eq_false_iff_not] at *; omega) | (simp only [List.length_append, List.length_cons, List.length_nil] <;> omega) | exact one_bv _ | exact one_sv _ | skip)
theorem entO_good1 : (entO 1 []).good = true := by
  rw [Ent.good3 rfl]
  simp [Ent.out, entO, ent0]
theorem alive16_sp : Rt 28 [] (.flat (.bool true)) := by
  have hE : ({ kind := 3, d := ent0.d, from_ := ent0.from_, seq := ent0.seq, prev := ent0.prev, mask := 1, pay := ent0.pay, sig := ent0.sig } : Ent) = entO 1 [] := rfl
  have ok1 : (entO 1 []).ok := entO_ok (by unfold inR; omega) (by simp)
  have k2 : ((2 ^ 1 - ([] : List Ent).length : Nat) : Int) = 2 := rfl
  have k3 : ([] ++ [entO 1 []] : List Ent) = [entO 1 []] := rfl
  intro M mn
  refine fnL (C := kc 44 [] []) (rs := [.tmp 0]) envOk Tryd.func28 (by kernel_rfl) rfl rfl rfl rfl rfl rfl (Low.flat _) ?_
  intro E hG hM
  have hMk : ∀ z k, mn + 1 ≤ k → upd M mn z k = none := fun z k hk => by rw [upd_ne _ _ (by omega)]; exact hM k (by omega)
  have cN := New_sp [115, 101, 101, 100] 1 (by simp) (by decide) (by decide)
  have cL := LNew_sp 0 (by omega) (by omega) mn [115, 101, 101, 100] 1 (upd M mn (some (kyV [115, 101, 101, 100] 1).c)) (mn + 1) (upd_same _ _ _) (hMk _)
  have u1 : ∀ (A : Mem) x y z, upd (upd (upd A mn x) (mn + 1 + 1) y) (mn + 1 + 1 + 1) z mn = x := fun A x y z => by rw [upd_ne _ _ (by omega), upd_ne _ _ (by omega), upd_same]
  have u2 : ∀ (A : Mem) x y z, upd (upd (upd A mn x) (mn + 1 + 1) y) (mn + 1 + 1 + 1) z (mn + 1 + 1) = y := fun A x y z => by rw [upd_ne _ _ (by omega), upd_same]
  repeat' (first | (with_reducible first | refine pa ?_ | refine pb ?_ | refine pc ?_ | refine nxt_n ?_ | refine nxt_e ?_ | refine nxt_r ?_ | refine blk_n ?_ | refine blk_r ?_ | refine blk_hit ?_ | refine blk_miss (by rfl) ?_ | refine pd ?_ | refine pe ?_ | refine pf ?_ | refine pg ?_ | apply And.intro) | (refine hK _ ?_; clear hK K hΘ Θ) | (with_reducible first | refine cw1 ?_ | refine cw2 ?_ | exact cw3 | exact cw4) | ((with_reducible first | refine cw5 (fun gg => ?_) | refine cw6 (fun gg => ?_) | refine cw7 (fun gg => ?_)); try simp only [gg]) | refine cs1 hG rfl ?_ ?_ | refine cs2 hG rfl ?_ ?_ | ((fail_if_success (with_reducible first | show WC _ _ _ (.region 2 _ _) _ _ | show WC _ _ _ (.seq (.region 2 _ _) _) _ _)); (first | refine kg (cN _ _) rfl hΘ ?_ | refine rga hG (by kernel_rfl) (fun Θ K hΘ hK => ?_) | refine rgb hG (by kernel_rfl) (fun Θ K hΘ hK => ?_)); simp (maxSteps := 2000000) only [go_sem, seval, reduceCtorEq]) | ((first | refine Post.splitN (fun gg => ?_) (fun gg => ?_) | refine Post.split (fun gg => ?_) (fun gg => ?_)) <;> simp (maxSteps := 2000000) only [go_sem, seval, reduceCtorEq, gg]) | (refine finR (by simp only [go_sem, seval, reduceCtorEq]; exact rfl) ?_; simp only [go_sem, seval, reduceCtorEq]) | refine updL hM ?_ (by omega) | (with_reducible exact fun _ _ => rfl))
  all_goals (first | omega | (simp only [decide_eq_true_eq, decide_eq_false_iff_not] at *; omega) | (simp only [List.length_append, List.length_cons, List.length_nil] <;> omega) | exact one_bv _ | exact one_sv _ | skip)
  repeat' (first | (with_reducible first | refine pa ?_ | refine pb ?_ | refine pc ?_ | refine nxt_n ?_ | refine nxt_e ?_ | refine nxt_r ?_ | refine blk_n ?_ | refine blk_r ?_ | refine blk_hit ?_ | refine blk_miss (by rfl) ?_ | refine pd ?_ | refine pe ?_ | refine pf ?_ | refine pg ?_ | apply And.intro) | (refine hK _ ?_; clear hK K hΘ Θ) | (with_reducible first | refine cw1 ?_ | refine cw2 ?_ | exact cw3 | exact cw4) | ((with_reducible first | refine cw5 (fun gg => ?_) | refine cw6 (fun gg => ?_) | refine cw7 (fun gg => ?_)); try simp only [gg]) | refine cs1 hG rfl ?_ ?_ | refine cs2 hG rfl ?_ ?_ | ((fail_if_success (with_reducible first | show WC _ _ _ (.region 3 _ _) _ _ | show WC _ _ _ (.seq (.region 3 _ _) _) _ _)); (first | refine kg (cL) rfl hΘ ?_ | refine rga hG (by kernel_rfl) (fun Θ K hΘ hK => ?_) | refine rgb hG (by kernel_rfl) (fun Θ K hΘ hK => ?_)); simp (maxSteps := 2000000) only [go_sem, seval, reduceCtorEq]) | ((first | refine Post.splitN (fun gg => ?_) (fun gg => ?_) | refine Post.split (fun gg => ?_) (fun gg => ?_)) <;> simp (maxSteps := 2000000) only [go_sem, seval, reduceCtorEq, gg]) | (refine finR (by simp only [go_sem, seval, reduceCtorEq]; exact rfl) ?_; simp only [go_sem, seval, reduceCtorEq]) | refine updL hM ?_ (by omega) | (with_reducible exact fun _ _ => rfl))
  all_goals (first | omega | (simp only [decide_eq_true_eq, decide_eq_false_iff_not] at *; omega) | (simp only [List.length_append, List.length_cons, List.length_nil] <;> omega) | exact one_bv _ | exact one_sv _ | skip)
  repeat' (first | (with_reducible first | refine pa ?_ | refine pb ?_ | refine pc ?_ | refine nxt_n ?_ | refine nxt_e ?_ | refine nxt_r ?_ | refine blk_n ?_ | refine blk_r ?_ | refine blk_hit ?_ | refine blk_miss (by rfl) ?_ | refine pd ?_ | refine pe ?_ | refine pf ?_ | refine pg ?_ | apply And.intro) | (refine hK _ ?_; clear hK K hΘ Θ) | (with_reducible first | refine cw1 ?_ | refine cw2 ?_ | exact cw3 | exact cw4) | ((with_reducible first | refine cw5 (fun gg => ?_) | refine cw6 (fun gg => ?_) | refine cw7 (fun gg => ?_)); try simp only [gg]) | refine cs1 hG rfl ?_ ?_ | refine cs2 hG rfl ?_ ?_ | ((fail_if_success (with_reducible first | show WC _ _ _ (.region 4 _ _) _ _ | show WC _ _ _ (.seq (.region 4 _ _) _) _ _)); (first | refine kg (LAuth_none 0 mn (mn + 1 + 1) [] 1 (by simp) _ _ (upd_same _ _ _)) rfl hΘ ?_ | refine rga hG (by kernel_rfl) (fun Θ K hΘ hK => ?_) | refine rgb hG (by kernel_rfl) (fun Θ K hΘ hK => ?_)); simp (maxSteps := 2000000) only [go_sem, seval, reduceCtorEq]) | ((first | refine Post.splitN (fun gg => ?_) (fun gg => ?_) | refine Post.split (fun gg => ?_) (fun gg => ?_)) <;> simp (maxSteps := 2000000) only [go_sem, seval, reduceCtorEq, gg]) | (refine finR (by simp only [go_sem, seval, reduceCtorEq]; exact rfl) ?_; simp only [go_sem, seval, reduceCtorEq]) | refine updL hM ?_ (by omega) | (with_reducible exact fun _ _ => rfl))
  all_goals (first | omega | (simp only [decide_eq_true_eq, decide_eq_false_iff_not] at *; omega) | (simp only [List.length_append, List.length_cons, List.length_nil] <;> omega) | exact one_bv _ | exact one_sv _ | skip)
  obtain ⟨M4, hM4⟩ : ∃ m : Mem, m = upd (upd (upd M mn (some (kyV [115, 101, 101, 100] 1).c)) (mn + 1 + 1) (some (lgC 0 mn []))) (mn + 1 + 1 + 1) (some au0.c) := ⟨_, rfl⟩
  have hk : M4 mn = some (kyV [115, 101, 101, 100] 1).c := by rw [hM4]; exact u1 _ _ _ _
  have hb : M4 (mn + 1 + 1) = some (lgC 0 mn []) := by rw [hM4]; exact u2 _ _ _ _
  have hMb : ∀ b, M b ≠ none → upd M4 (mn + 1 + 1) (some (lgC 0 mn [entO 1 []])) b = M b := fun b hb2 => by
    have hlt : b < mn := Nat.lt_of_not_le fun k => hb2 (hM b k)
    rw [upd_ne _ _ (by omega), hM4, upd_ne _ _ (by omega), upd_ne _ _ (by omega), upd_ne _ _ (by omega)]
  rw [← hM4]
  have hEl : Ent.lC [entO 1 []] = (entO 1 []).c := by simp [Ent.lC]
  have hEl2 : (entO 1 []).c ++ [] = (entO 1 []).c := List.append_nil _
  have cF := LLeft_sp 0 mn (mn + 1 + 1) [115, 101, 101, 100] 1 (by omega) [] (by simp) M4 (mn + 1 + 1 + 1 + 1) hk hb
  rw [k2] at cF
  have cA := LAppend_sp 0 mn (mn + 1 + 1) [115, 101, 101, 100] 1 (by omega) [] [entO 1 []] (by simpa using ok1) (by simpa using entO_good1) (by simp) M4 (mn + 1 + 1 + 1 + 1) hk hb (by omega)
  rw [hEl, List.nil_append] at cA
  have cN2 := LLen_sp 0 mn (mn + 1 + 1) [entO 1 []] (upd M4 (mn + 1 + 1) (some (lgC 0 mn [entO 1 []]))) (mn + 1 + 1 + 1 + 1) (upd_same _ _ _)
  simp only [List.length_singleton] at cA cN2
  have hMb2 : ∀ b, M b ≠ none → M4 b = M b := fun b hb2 => by
    have hlt : b < mn := Nat.lt_of_not_le fun k => hb2 (hM b k)
    rw [hM4, upd_ne _ _ (by omega), upd_ne _ _ (by omega), upd_ne _ _ (by omega)]
  repeat' (first | (with_reducible first | refine pa ?_ | refine pb ?_ | refine pc ?_ | refine nxt_n ?_ | refine nxt_e ?_ | refine nxt_r ?_ | refine blk_n ?_ | refine blk_r ?_ | refine blk_hit ?_ | refine blk_miss (by rfl) ?_ | refine pd ?_ | refine pe ?_ | refine pf ?_ | refine pg ?_ | apply And.intro) | (refine hK _ ?_; clear hK K hΘ Θ) | (with_reducible first | refine cw1 ?_ | refine cw2 ?_ | exact cw3 | exact cw4) | ((with_reducible first | refine cw5 (fun gg => ?_) | refine cw6 (fun gg => ?_) | refine cw7 (fun gg => ?_)); try simp only [gg]) | refine cs1 hG rfl ?_ ?_ | refine cs2 hG rfl ?_ ?_ | ((first | refine kg (cF) rfl hΘ ?_ | refine kg (cA) rfl hΘ ?_ | refine kg (cN2) rfl hΘ ?_ | refine rga hG (by kernel_rfl) (fun Θ K hΘ hK => ?_) | refine rgb hG (by kernel_rfl) (fun Θ K hΘ hK => ?_)); simp (maxSteps := 2000000) only [go_sem, seval, reduceCtorEq, hE, hEl2, hMb]) | ((first | refine Post.splitN (fun gg => ?_) (fun gg => ?_) | refine Post.split (fun gg => ?_) (fun gg => ?_)) <;> simp (maxSteps := 2000000) only [go_sem, seval, reduceCtorEq, gg, hE, hEl2, hMb]) | (refine finR (by simp only [go_sem, seval, reduceCtorEq, hE, hEl2, hMb]; exact rfl) ?_; simp only [go_sem, seval, reduceCtorEq, hE, hEl2, hMb]) | refine updL hM ?_ (by omega) | (with_reducible exact fun _ _ => rfl))
  all_goals (first | omega | (simp only [decide_eq_true_eq, decide_eq_false_iff_not] at *; omega) | (simp only [List.length_append, List.length_cons, List.length_nil] <;> omega) | exact one_bv _ | exact one_sv _ | skip)
end Go.VL
