/- Part TMail3 of the proof: made for this claim. -/
import Derived.Test.YtljfmgfokifooaaTMail2
set_option linter.unusedVariables false
set_option linter.unusedSimpArgs false
set_option maxRecDepth 100000
set_option maxHeartbeats 8000000
open Go.RowKit
namespace Go.VL
open Go.Proofs
theorem updLm {M' : Mem} {k : Nat} {x : Option (List V)} {b0 : Nat} {c : Option (List V)} (h : M' b0 = c) (hk : b0 < k) : upd M' k x b0 = c := by rw [upd_ne _ _ (by omega)]; exact h
@[go_sem] theorem rep12 (x : V) : rep 12 [x] = [x, x, x, x, x, x, x, x, x, x, x, x] := rfl
theorem MText_sp (m : Mail) (hm : m.ok) (hp : total m.proofs ≤ 1000000) : Rt 11 [.agg m.ml.c] (.flat (.string (bs m.text))) := by
  have cG := MGood_sp m hm
  obtain ⟨i1, i2, i3, i4, i5, i6, i7, i8, ⟨i9, l1⟩, ⟨j1, l2⟩, j2, l3⟩ := id hm
  cases hg : m.good
  · have ht : m.text = [] := by unfold Mail.text; rw [hg]; rfl
    rw [ht]
    rw [hg] at cG
    intro M mn
    refine fnL (C := kc 63 [17] []) (rs := [.tmp 2]) envOk Try.func11 (by kernel_rfl) rfl rfl rfl rfl rfl rfl (Low.flat _) ?_
    intro E hG hM
    repeat' (first | (with_reducible first | refine pa ?_ | refine pb ?_ | refine pc ?_ | refine nxt_n ?_ | refine nxt_e ?_ | refine nxt_r ?_ | refine blk_n ?_ | refine blk_r ?_ | refine blk_hit ?_ | refine blk_miss (by rfl) ?_ | refine pd ?_ | refine pe ?_ | refine pf ?_ | refine pg ?_ | apply And.intro) | (refine hK _ ?_; first | clear hK K hn0 hcl hΘ Θ | clear hK K hΘ Θ) | (with_reducible first | refine cw1 ?_ | refine cw2 ?_ | exact cw3 | exact cw4) | ((with_reducible first | refine cw5 (fun gg => ?_) | refine cw6 (fun gg => ?_) | refine cw7 (fun gg => ?_)); try simp only [gg]) | refine cs1 hG rfl ?_ ?_ | refine cs2 hG rfl ?_ ?_ | ((first | refine kg (cG _ _) rfl hΘ ?_ | refine rga hG (by kernel_rfl) (fun Θ K hΘ hK => ?_) | refine rgb hG (by kernel_rfl) (fun Θ K hΘ hK => ?_) | refine rgc defCl hG (by kernel_rfl) cl0 (by rfl) (by kernel_rfl) (fun Θ K hΘ hcl hn0 hK => ?_) | refine rgd defCl hG (by kernel_rfl) cl0 (by rfl) (by kernel_rfl) (fun Θ K hΘ hcl hn0 hK => ?_)); simp (maxSteps := 2000000) only [go_sem, seval, reduceCtorEq, List.append_eq]) | ((first | refine Post.splitN (fun gg => ?_) (fun gg => ?_) | refine PostB.splitN (fun gg => ?_) (fun gg => ?_) | refine Post.split (fun gg => ?_) (fun gg => ?_) | refine PostB.split (fun gg => ?_) (fun gg => ?_)) <;> simp (maxSteps := 2000000) only [go_sem, seval, reduceCtorEq, List.append_eq, gg]) | (refine finR (by simp only [go_sem, seval, reduceCtorEq, List.append_eq]; exact rfl) ?_; simp only [go_sem, seval, reduceCtorEq, List.append_eq]) | refine updL hM ?_ (by omega) | (with_reducible exact fun _ _ => rfl))
    all_goals (first | omega | (simp only [decide_eq_true_eq, decide_eq_false_iff_not] at *; omega) | (simp only [List.length_append, List.length_cons, List.length_nil] <;> omega) | exact one_bv _ | exact one_sv _ | skip)
  have hF := (Mail.good_iff m).1 hg
  obtain ⟨t1, t2⟩ := Mail.total_le hm hF 1000000 hp (by omega)
  rw [hg] at cG
  have n1 : m.kind < 9223372036854775808 := by have := i1.2; omega
  have n2 : m.from_ < 9223372036854775808 := by have := i2.2; omega
  have n3 : m.to < 9223372036854775808 := by have := i3.2; omega
  have n4 : m.seq < 9223372036854775808 := by have := i4.2; omega
  have n5 : m.mask < 9223372036854775808 := by have := i5.2; omega
  have n6 : m.other < 9223372036854775808 := by have := i7.2; omega
  have hal := hF.auths.1
  have hw := (Au.word_iff m.auth).1 hF.auth
  have ht : m.text = if m.bytes.length > 262144 then [] else m.bytes := by unfold Mail.text; rw [hg, if_pos rfl]
  have ta := total_auts m.auths i9 hF.auths.2
  have hL1 := List_sp (m.auths.map Au.text) (by omega) (by simp; omega)
  rw [List.length_map] at hL1
  have ha : listB (m.auths.map Au.text) = autsB m.auths := rfl
  rw [ha] at hL1
  have hL2 := List_sp m.proofs (by omega) (by have := hF.proofs; omega)
  have hT := ETexts_sp m.ents j1 (by have := hF.ents.1; omega)
  have hA := AuText_sp m.auth i8 (by omega)
  have hL : Rt 29 [.sl false 1 12 (sv [numB m.kind.toNat, numB m.from_.toNat, numB m.to.toNat, numB m.seq.toNat, m.prev.1, numB m.mask.toNat, m.pay, numB m.other.toNat, m.auth.text, autsB m.auths, textsB m.ents, listB m.proofs])] (.flat (.string (bs m.bytes))) := List_sp m.parts (by omega) (by omega)
  have tb := take_bv32 m.prev
  generalize hB : m.bytes = B at *
  intro M mn
  refine fnL (C := kc 63 [17] []) (rs := [.tmp 2]) envOk Try.func11 (by kernel_rfl) rfl rfl rfl rfl rfl rfl (Low.flat _) ?_
  intro E hG hM
  repeat' (first | (with_reducible first | refine pa ?_ | refine pb ?_ | refine pc ?_ | refine nxt_n ?_ | refine nxt_e ?_ | refine nxt_r ?_ | refine blk_n ?_ | refine blk_r ?_ | refine blk_hit ?_ | refine blk_miss (by rfl) ?_ | refine pd ?_ | refine pe ?_ | refine pf ?_ | refine pg ?_ | apply And.intro) | (refine hK _ ?_; first | clear hK K hn0 hcl hΘ Θ | clear hK K hΘ Θ) | (with_reducible first | refine cw1 ?_ | refine cw2 ?_ | exact cw3 | exact cw4) | ((with_reducible first | refine cw5 (fun gg => ?_) | refine cw6 (fun gg => ?_) | refine cw7 (fun gg => ?_)); try simp only [gg]) | refine cs1 hG rfl ?_ ?_ | refine cs2 hG rfl ?_ ?_ | ((first | refine kg (cG _ _) rfl hΘ ?_ | refine rga hG (by kernel_rfl) (fun Θ K hΘ hK => ?_) | refine rgb hG (by kernel_rfl) (fun Θ K hΘ hK => ?_) | refine rgc defCl hG (by kernel_rfl) cl0 (by rfl) (by kernel_rfl) (fun Θ K hΘ hcl hn0 hK => ?_) | refine rgd defCl hG (by kernel_rfl) cl0 (by rfl) (by kernel_rfl) (fun Θ K hΘ hcl hn0 hK => ?_)); simp (maxSteps := 2000000) only [go_sem, seval, reduceCtorEq, List.append_eq]) | ((first | refine Post.splitN (fun gg => ?_) (fun gg => ?_) | refine PostB.splitN (fun gg => ?_) (fun gg => ?_) | refine Post.split (fun gg => ?_) (fun gg => ?_) | refine PostB.split (fun gg => ?_) (fun gg => ?_)) <;> simp (maxSteps := 2000000) only [go_sem, seval, reduceCtorEq, List.append_eq, gg]) | (refine finR (by simp only [go_sem, seval, reduceCtorEq, List.append_eq]; exact rfl) ?_; simp only [go_sem, seval, reduceCtorEq, List.append_eq]) | refine updL hM ?_ (by omega) | (with_reducible exact fun _ _ => rfl))
  all_goals (first | omega | (simp only [decide_eq_true_eq, decide_eq_false_iff_not] at *; omega) | (simp only [List.length_append, List.length_cons, List.length_nil] <;> omega) | exact one_bv _ | exact one_sv _ | skip)
  refine WC.loopA (fun q : Nat × Mem × Nat => ⟨[(13, .flat (.int .i64 q.1)), (12, .flat (.int .i64 m.auths.length)), (11, .sl false 35 m.auths.length (Au.lC m.auths)), (3, .sl true 1 q.1 (sv ((m.auths.take q.1).map Au.text))), (1, .bp mn 0)], q.2.1, q.2.2⟩) (fun q => m.auths.length - q.1) (fun q => q.1 ≤ m.auths.length ∧ (∀ b, M b ≠ none → q.2.1 b = M b) ∧ mn + 1 ≤ q.2.2 ∧ q.2.1 mn = some m.ml.c) (0, upd M mn (some m.ml.c), mn + 1) ⟨by simp only; omega, updL hM (fun _ _ => rfl) (Nat.le_refl _), Nat.le_refl _, by simp [upd]⟩ (sbs (by simp (maxSteps := 2000000) only [go_sem, seval, reduceCtorEq, List.append_eq, List.take_zero, List.map_nil, sv_n]) rfl rfl) ?_
  rintro ⟨i, μ, n⟩ ⟨hi, hk, hn, hb⟩
  simp only at hi hk hn hb ⊢
  by_cases h : i < m.auths.length
  · have f1 : ((i : Int) < (m.auths.length : Int)) = True := eq_true (by omega)
    have g1 : (i < m.auths.length) = True := eq_true h
    have v1 := wi1 (n := i) (by omega)
    have hmem : m.auths.getD i au0 ∈ m.auths := by rw [List.getD_eq_getElem?_getD, List.getElem?_eq_getElem h]; exact List.getElem_mem _
    have he := i9 _ hmem
    have hw1 := (Au.word_iff _).1 (hF.auths.2 _ hmem)
    have hgt := Au.l_get m.auths au0 i h
    have hll := Au.l_len m.auths
    have ht1 := Au.tk (m.auths.getD i au0)
    have hS : sv ((m.auths.take i).map Au.text) ++ [.flat (.string (bs (m.auths.getD i au0).text))] = sv ((m.auths.take (i + 1)).map Au.text) := by rw [sv_snoc, tkmap Au.text m.auths i au0 h]
    have hsl : (sv ((m.auths.take i).map Au.text)).length = i := by rw [sv_length, List.length_map, List.length_take]; omega
    have g2 : (i * 35 + 35 ≤ m.auths.length * 35) = True := eq_true (by omega)
    repeat' (first | (with_reducible first | refine pa ?_ | refine pb ?_ | refine pc ?_ | refine nxt_n ?_ | refine nxt_e ?_ | refine nxt_r ?_ | refine blk_n ?_ | refine blk_r ?_ | refine blk_hit ?_ | refine blk_miss (by rfl) ?_ | refine pd ?_ | refine pe ?_ | refine pf ?_ | refine pg ?_ | apply And.intro) | (refine hK _ ?_; first | clear hK K hn0 hcl hΘ Θ | clear hK K hΘ Θ) | (with_reducible first | refine cw1 ?_ | refine cw2 ?_ | exact cw3 | exact cw4) | ((with_reducible first | refine cw5 (fun gg => ?_) | refine cw6 (fun gg => ?_) | refine cw7 (fun gg => ?_)); try simp only [gg]) | refine cs1 hG rfl ?_ ?_ | refine cs2 hG rfl ?_ ?_ | ((first | refine kg (AuText_sp (m.auths.getD i au0) he (by omega) _ _) rfl hΘ ?_ | refine rga hG (by kernel_rfl) (fun Θ K hΘ hK => ?_) | refine rgb hG (by kernel_rfl) (fun Θ K hΘ hK => ?_) | refine rgc defCl hG (by kernel_rfl) cl0 (by rfl) (by kernel_rfl) (fun Θ K hΘ hcl hn0 hK => ?_) | refine rgd defCl hG (by kernel_rfl) cl0 (by rfl) (by kernel_rfl) (fun Θ K hΘ hcl hn0 hK => ?_)); simp (maxSteps := 2000000) only [go_sem, seval, reduceCtorEq, List.append_eq, f1, g1, v1, hgt, hll, ht1, hS, hsl, g2]) | ((first | refine Post.splitN (fun gg => ?_) (fun gg => ?_) | refine PostB.splitN (fun gg => ?_) (fun gg => ?_) | refine Post.split (fun gg => ?_) (fun gg => ?_) | refine PostB.split (fun gg => ?_) (fun gg => ?_)) <;> simp (maxSteps := 2000000) only [go_sem, seval, reduceCtorEq, List.append_eq, gg, f1, g1, v1, hgt, hll, ht1, hS, hsl, g2]) | (refine finR (by simp only [go_sem, seval, reduceCtorEq, List.append_eq, f1, g1, v1, hgt, hll, ht1, hS, hsl, g2]; exact rfl) ?_; simp only [go_sem, seval, reduceCtorEq, List.append_eq, f1, g1, v1, hgt, hll, ht1, hS, hsl, g2]) | refine updL hM ?_ (by omega) | (with_reducible exact fun _ _ => rfl))
    all_goals (first | omega | (simp only [decide_eq_true_eq, decide_eq_false_iff_not] at *; omega) | (simp only [List.length_append, List.length_cons, List.length_nil] <;> omega) | exact one_bv _ | exact one_sv _ | skip)
    exact ⟨(i + 1, upd μ n (some (m.auths.getD i au0).c), n + 1), ⟨by simp only; omega, updL hM hk (by omega), by simp only; omega, updLm hb (by omega)⟩, by simp only; omega, (sbs (by simp (maxSteps := 2000000) only [go_sem, seval, reduceCtorEq, List.append_eq]) rfl rfl)⟩
  · have f1 : ((i : Int) < (m.auths.length : Int)) = False := eq_false (by omega)
    have e1 : i = m.auths.length := by omega
    subst e1
    rw [List.take_length]
    by_cases hbl : B.length > 262144
    · have q1 : ((B.length : Int) > 262144) = True := eq_true (by omega)
      rw [ht, if_pos hbl]
      repeat' (first | (with_reducible first | refine pa ?_ | refine pb ?_ | refine pc ?_ | refine nxt_n ?_ | refine nxt_e ?_ | refine nxt_r ?_ | refine blk_n ?_ | refine blk_r ?_ | refine blk_hit ?_ | refine blk_miss (by rfl) ?_ | refine pd ?_ | refine pe ?_ | refine pf ?_ | refine pg ?_ | apply And.intro) | (refine hK _ ?_; first | clear hK K hn0 hcl hΘ Θ | clear hK K hΘ Θ) | (with_reducible first | refine cw1 ?_ | refine cw2 ?_ | exact cw3 | exact cw4) | ((with_reducible first | refine cw5 (fun gg => ?_) | refine cw6 (fun gg => ?_) | refine cw7 (fun gg => ?_)); try simp only [gg]) | refine cs1 hG rfl ?_ ?_ | refine cs2 hG rfl ?_ ?_ | ((first | refine kf (fun M n => Num_sp m.kind n1 M n) rfl (by decide) cl0 hΘ hcl hn0 ?_ | refine kf (fun M n => Num_sp m.from_ n2 M n) rfl (by decide) cl0 hΘ hcl hn0 ?_ | refine kf (fun M n => Num_sp m.to n3 M n) rfl (by decide) cl0 hΘ hcl hn0 ?_ | refine kf (fun M n => Num_sp m.seq n4 M n) rfl (by decide) cl0 hΘ hcl hn0 ?_ | refine kf (fun M n => Num_sp m.mask n5 M n) rfl (by decide) cl0 hΘ hcl hn0 ?_ | refine kf (fun M n => Num_sp m.other n6 M n) rfl (by decide) cl0 hΘ hcl hn0 ?_ | refine kf (fun M n => hA M n) rfl (by decide) cl0 hΘ hcl hn0 ?_ | refine kf (fun M n => hL1 M n) rfl (by decide) cl0 hΘ hcl hn0 ?_ | refine kf (fun M n => hT M n) rfl (by decide) cl0 hΘ hcl hn0 ?_ | refine kf (fun M n => hL2 M n) rfl (by decide) cl0 hΘ hcl hn0 ?_ | refine kf (fun M n => hL M n) rfl (by decide) cl0 hΘ hcl hn0 ?_ | refine rga hG (by kernel_rfl) (fun Θ K hΘ hK => ?_) | refine rgb hG (by kernel_rfl) (fun Θ K hΘ hK => ?_) | refine rgc defCl hG (by kernel_rfl) cl0 (by rfl) (by kernel_rfl) (fun Θ K hΘ hcl hn0 hK => ?_) | refine rgd defCl hG (by kernel_rfl) cl0 (by rfl) (by kernel_rfl) (fun Θ K hΘ hcl hn0 hK => ?_)); simp (maxSteps := 2000000) only [go_sem, seval, reduceCtorEq, List.append_eq, f1, hb, tb, q1]) | ((first | refine Post.splitN (fun gg => ?_) (fun gg => ?_) | refine PostB.splitN (fun gg => ?_) (fun gg => ?_) | refine Post.split (fun gg => ?_) (fun gg => ?_) | refine PostB.split (fun gg => ?_) (fun gg => ?_)) <;> simp (maxSteps := 2000000) only [go_sem, seval, reduceCtorEq, List.append_eq, gg, f1, hb, tb, q1]) | (refine finR (by simp only [go_sem, seval, reduceCtorEq, List.append_eq, f1, hb, tb, q1]; exact rfl) ?_; simp only [go_sem, seval, reduceCtorEq, List.append_eq, f1, hb, tb, q1]) | refine updL hM ?_ (by omega) | (with_reducible exact fun _ _ => rfl))
      all_goals (first | omega | (simp only [decide_eq_true_eq, decide_eq_false_iff_not] at *; omega) | (simp only [List.length_append, List.length_cons, List.length_nil] <;> omega) | exact one_bv _ | exact one_sv _ | skip)
    · have q1 : ((B.length : Int) > 262144) = False := eq_false (by omega)
      rw [ht, if_neg hbl]
      repeat' (first | (with_reducible first | refine pa ?_ | refine pb ?_ | refine pc ?_ | refine nxt_n ?_ | refine nxt_e ?_ | refine nxt_r ?_ | refine blk_n ?_ | refine blk_r ?_ | refine blk_hit ?_ | refine blk_miss (by rfl) ?_ | refine pd ?_ | refine pe ?_ | refine pf ?_ | refine pg ?_ | apply And.intro) | (refine hK _ ?_; first | clear hK K hn0 hcl hΘ Θ | clear hK K hΘ Θ) | (with_reducible first | refine cw1 ?_ | refine cw2 ?_ | exact cw3 | exact cw4) | ((with_reducible first | refine cw5 (fun gg => ?_) | refine cw6 (fun gg => ?_) | refine cw7 (fun gg => ?_)); try simp only [gg]) | refine cs1 hG rfl ?_ ?_ | refine cs2 hG rfl ?_ ?_ | ((first | refine kf (fun M n => Num_sp m.kind n1 M n) rfl (by decide) cl0 hΘ hcl hn0 ?_ | refine kf (fun M n => Num_sp m.from_ n2 M n) rfl (by decide) cl0 hΘ hcl hn0 ?_ | refine kf (fun M n => Num_sp m.to n3 M n) rfl (by decide) cl0 hΘ hcl hn0 ?_ | refine kf (fun M n => Num_sp m.seq n4 M n) rfl (by decide) cl0 hΘ hcl hn0 ?_ | refine kf (fun M n => Num_sp m.mask n5 M n) rfl (by decide) cl0 hΘ hcl hn0 ?_ | refine kf (fun M n => Num_sp m.other n6 M n) rfl (by decide) cl0 hΘ hcl hn0 ?_ | refine kf (fun M n => hA M n) rfl (by decide) cl0 hΘ hcl hn0 ?_ | refine kf (fun M n => hL1 M n) rfl (by decide) cl0 hΘ hcl hn0 ?_ | refine kf (fun M n => hT M n) rfl (by decide) cl0 hΘ hcl hn0 ?_ | refine kf (fun M n => hL2 M n) rfl (by decide) cl0 hΘ hcl hn0 ?_ | refine kf (fun M n => hL M n) rfl (by decide) cl0 hΘ hcl hn0 ?_ | refine rga hG (by kernel_rfl) (fun Θ K hΘ hK => ?_) | refine rgb hG (by kernel_rfl) (fun Θ K hΘ hK => ?_) | refine rgc defCl hG (by kernel_rfl) cl0 (by rfl) (by kernel_rfl) (fun Θ K hΘ hcl hn0 hK => ?_) | refine rgd defCl hG (by kernel_rfl) cl0 (by rfl) (by kernel_rfl) (fun Θ K hΘ hcl hn0 hK => ?_)); simp (maxSteps := 2000000) only [go_sem, seval, reduceCtorEq, List.append_eq, f1, hb, tb, q1]) | ((first | refine Post.splitN (fun gg => ?_) (fun gg => ?_) | refine PostB.splitN (fun gg => ?_) (fun gg => ?_) | refine Post.split (fun gg => ?_) (fun gg => ?_) | refine PostB.split (fun gg => ?_) (fun gg => ?_)) <;> simp (maxSteps := 2000000) only [go_sem, seval, reduceCtorEq, List.append_eq, gg, f1, hb, tb, q1]) | (refine finR (by simp only [go_sem, seval, reduceCtorEq, List.append_eq, f1, hb, tb, q1]; exact rfl) ?_; simp only [go_sem, seval, reduceCtorEq, List.append_eq, f1, hb, tb, q1]) | refine updL hM ?_ (by omega) | (with_reducible exact fun _ _ => rfl))
      all_goals (first | omega | (simp only [decide_eq_true_eq, decide_eq_false_iff_not] at *; omega) | (simp only [List.length_append, List.length_cons, List.length_nil] <;> omega) | exact one_bv _ | exact one_sv _ | skip)
end Go.VL
