/- Part TBatp of the proof: made for this claim. -/
import Derived.Test.YtnajgcmdkmlimaaTOpTp
import Derived.Test.YtnajgcmdkmlimaaOpList
set_option linter.unusedVariables false
set_option linter.unusedSimpArgs false
set_option maxRecDepth 100000
set_option maxHeartbeats 8000000
open Go.RowKit
namespace Go.VL
open Go.Proofs
/-! Operations as a payload. -/
theorem svn : sv [] = [] := rfl
theorem tkmapO (l : List Opn) (i : Nat) (h : i < l.length) : (l.take (i + 1)).map Opn.text = (l.take i).map Opn.text ++ [(l.getD i opn0).text] := by rw [take_snoc l i opn0 h, List.map_append]; rfl
theorem Batch_sp (l : List Opn) (hok : ∀ o ∈ l, o.ok ∧ o.great = false) (hl : l.length ≤ 1000) : Rt 41 [.sl false 38 l.length (Opn.lC l)] (.flat (.string (bs (batB l)))) := by
  intro M mn
  refine fnL (C := kc 20 [12] []) (rs := [.tmp 2]) envOk Try.func41 (by kernel_rfl) rfl rfl rfl rfl rfl rfl (Low.flat _) ?_
  intro E hG hM
  repeat' (first | (with_reducible first | refine pa ?_ | refine pb ?_ | refine pc ?_ | refine nxt_n ?_ | refine nxt_e ?_ | refine nxt_r ?_ | refine blk_n ?_ | refine blk_r ?_ | refine blk_hit ?_ | refine blk_miss (by rfl) ?_ | refine pd ?_ | refine pe ?_ | refine pf ?_ | refine pg ?_ | apply And.intro) | (refine hK _ ?_; first | clear hK K hn0 hcl hΘ Θ | clear hK K hΘ Θ) | (with_reducible first | refine cw1 ?_ | refine cw2 ?_ | exact cw3 | exact cw4) | ((with_reducible first | refine cw5 (fun gg => ?_) | refine cw6 (fun gg => ?_) | refine cw7 (fun gg => ?_)); try simp only [gg]) | refine cs1 hG rfl ?_ ?_ | refine cs2 hG rfl ?_ ?_ | ((first | refine rga hG (by kernel_rfl) (fun Θ K hΘ hK => ?_) | refine rgb hG (by kernel_rfl) (fun Θ K hΘ hK => ?_) | refine rgc defCl hG (by kernel_rfl) cl0 (by rfl) (by kernel_rfl) (fun Θ K hΘ hcl hn0 hK => ?_) | refine rgd defCl hG (by kernel_rfl) cl0 (by rfl) (by kernel_rfl) (fun Θ K hΘ hcl hn0 hK => ?_)); simp (maxSteps := 2000000) only [go_sem, seval, Nat.reduceEqDiff, Nat.reduceLeDiff, reduceIte, reduceCtorEq]) | ((first | refine Post.splitN (fun gg => ?_) (fun gg => ?_) | refine PostB.splitN (fun gg => ?_) (fun gg => ?_) | refine Post.split (fun gg => ?_) (fun gg => ?_) | refine PostB.split (fun gg => ?_) (fun gg => ?_)) <;> simp (maxSteps := 2000000) only [go_sem, seval, Nat.reduceEqDiff, Nat.reduceLeDiff, reduceIte, reduceCtorEq, gg]) | ((first | refine finR (by simp only [go_sem, seval, Nat.reduceEqDiff, Nat.reduceLeDiff, reduceIte, reduceCtorEq]; exact rfl) ?_ | refine finN (by simp only [go_sem, seval, Nat.reduceEqDiff, Nat.reduceLeDiff, reduceIte, reduceCtorEq]; exact rfl) ?_); simp only [go_sem, seval, Nat.reduceEqDiff, Nat.reduceLeDiff, reduceIte, reduceCtorEq]) | refine updL hM ?_ (by omega) | (with_reducible exact fun _ _ => rfl))
  all_goals (first | omega | (simp only [decide_eq_true_eq, decide_eq_false_iff_not] at *; omega) | (simp only [List.length_append, List.length_cons, List.length_nil] <;> omega) | exact one_bv _ | exact one_sv _ | skip)
  refine WC.loopA (fun q : Nat × Mem × Nat => ⟨[(8, .flat (.int .i64 q.1)), (7, .flat (.int .i64 l.length)), (6, .sl false 38 l.length (Opn.lC l)), (3, .sl true 1 q.1 (sv ((l.take q.1).map Opn.text)))], q.2.1, q.2.2⟩) (fun q => l.length - q.1) (fun q => q.1 ≤ l.length ∧ (∀ b, M b ≠ none → q.2.1 b = M b) ∧ mn ≤ q.2.2) (0, M, mn) ⟨by simp only; omega, fun _ _ => rfl, Nat.le_refl _⟩ (sbs (by simp (maxSteps := 2000000) only [go_sem, seval, Nat.reduceEqDiff, Nat.reduceLeDiff, reduceIte, reduceCtorEq, List.take_zero, List.map_nil, svn]) rfl rfl) ?_
  rintro ⟨i, m, n⟩ ⟨hi, hk, hn⟩
  simp only at hi hk hn ⊢
  by_cases h : i < l.length
  · have f1 : ((i : Int) < (l.length : Int)) = True := eq_true (by omega)
    have g1 : (i < l.length) = True := eq_true h
    have v1 := wi1 (n := i) (by omega)
    obtain ⟨he, hgr⟩ : (l.getD i opn0).ok ∧ (l.getD i opn0).great = false := hok _ (by rw [List.getD_eq_getElem?_getD, List.getElem?_eq_getElem h]; exact List.getElem_mem _)
    obtain ⟨l1, l2, l3⟩ := Opn.great_of2 hgr
    have hgt := Opn.l_get l opn0 i h
    have hll := Opn.l_len l
    have hS : sv ((l.take i).map Opn.text) ++ [.flat (.string (bs (l.getD i opn0).text))] = sv ((l.take (i + 1)).map Opn.text) := by rw [sv_snoc, tkmapO l i h]
    have hsl : (sv ((l.take i).map Opn.text)).length = i := by rw [sv_length, List.length_map, List.length_take]; omega
    have g2 : (i * 38 + 38 ≤ l.length * 38) = True := eq_true (by omega)
    generalize l.getD i opn0 = o at *
    have hz := opz o.d o.a o.dep o.ps
    repeat' (first | (with_reducible first | refine pa ?_ | refine pb ?_ | refine pc ?_ | refine nxt_n ?_ | refine nxt_e ?_ | refine nxt_r ?_ | refine blk_n ?_ | refine blk_r ?_ | refine blk_hit ?_ | refine blk_miss (by rfl) ?_ | refine pd ?_ | refine pe ?_ | refine pf ?_ | refine pg ?_ | apply And.intro) | (refine hK _ ?_; first | clear hK K hn0 hcl hΘ Θ | clear hK K hΘ Θ) | (with_reducible first | refine cw1 ?_ | refine cw2 ?_ | exact cw3 | exact cw4) | ((with_reducible first | refine cw5 (fun gg => ?_) | refine cw6 (fun gg => ?_) | refine cw7 (fun gg => ?_)); try simp only [gg]) | refine cs1 hG rfl ?_ ?_ | refine cs2 hG rfl ?_ ?_ | ((first | refine kg (OText_sp o he l1 l2 l3 _ _) rfl hΘ ?_ | refine rga hG (by kernel_rfl) (fun Θ K hΘ hK => ?_) | refine rgb hG (by kernel_rfl) (fun Θ K hΘ hK => ?_) | refine rgc defCl hG (by kernel_rfl) cl0 (by rfl) (by kernel_rfl) (fun Θ K hΘ hcl hn0 hK => ?_) | refine rgd defCl hG (by kernel_rfl) cl0 (by rfl) (by kernel_rfl) (fun Θ K hΘ hcl hn0 hK => ?_)); simp (maxSteps := 2000000) only [go_sem, seval, Nat.reduceEqDiff, Nat.reduceLeDiff, reduceIte, reduceCtorEq, f1, g1, v1, hgt, hll, hS, hsl, g2, hz]) | ((first | refine Post.splitN (fun gg => ?_) (fun gg => ?_) | refine PostB.splitN (fun gg => ?_) (fun gg => ?_) | refine Post.split (fun gg => ?_) (fun gg => ?_) | refine PostB.split (fun gg => ?_) (fun gg => ?_)) <;> simp (maxSteps := 2000000) only [go_sem, seval, Nat.reduceEqDiff, Nat.reduceLeDiff, reduceIte, reduceCtorEq, gg, f1, g1, v1, hgt, hll, hS, hsl, g2, hz]) | ((first | refine finR (by simp only [go_sem, seval, Nat.reduceEqDiff, Nat.reduceLeDiff, reduceIte, reduceCtorEq, f1, g1, v1, hgt, hll, hS, hsl, g2, hz]; exact rfl) ?_ | refine finN (by simp only [go_sem, seval, Nat.reduceEqDiff, Nat.reduceLeDiff, reduceIte, reduceCtorEq, f1, g1, v1, hgt, hll, hS, hsl, g2, hz]; exact rfl) ?_); simp only [go_sem, seval, Nat.reduceEqDiff, Nat.reduceLeDiff, reduceIte, reduceCtorEq, f1, g1, v1, hgt, hll, hS, hsl, g2, hz]) | refine updL hM ?_ (by omega) | (with_reducible exact fun _ _ => rfl))
    all_goals (first | omega | (simp only [decide_eq_true_eq, decide_eq_false_iff_not] at *; omega) | (simp only [List.length_append, List.length_cons, List.length_nil] <;> omega) | exact one_bv _ | exact one_sv _ | skip)
    exact ⟨(i + 1, upd m n (some (OpR.c ⟨o.d, o.a, o.dep, .sl false 32 o.ps.length (idsC o.ps)⟩)), n + 1), ⟨by simp only; omega, updL hM hk (by omega), by simp only; omega⟩, by simp only; omega, (sbs (by simp (maxSteps := 2000000) only [go_sem, seval, Nat.reduceEqDiff, Nat.reduceLeDiff, reduceIte, reduceCtorEq]) rfl rfl)⟩
  · have f1 : ((i : Int) < (l.length : Int)) = False := eq_false (by omega)
    have e1 : i = l.length := by omega
    subst e1
    have htt := Opn.total_bat l hok
    have hL := List_sp (l.map Opn.text) (by omega) (by simp; omega)
    rw [List.length_map] at hL
    have hts : listB (l.map Opn.text) = batB l := rfl
    rw [hts] at hL
    rw [List.take_length]
    repeat' (first | (with_reducible first | refine pa ?_ | refine pb ?_ | refine pc ?_ | refine nxt_n ?_ | refine nxt_e ?_ | refine nxt_r ?_ | refine blk_n ?_ | refine blk_r ?_ | refine blk_hit ?_ | refine blk_miss (by rfl) ?_ | refine pd ?_ | refine pe ?_ | refine pf ?_ | refine pg ?_ | apply And.intro) | (refine hK _ ?_; first | clear hK K hn0 hcl hΘ Θ | clear hK K hΘ Θ) | (with_reducible first | refine cw1 ?_ | refine cw2 ?_ | exact cw3 | exact cw4) | ((with_reducible first | refine cw5 (fun gg => ?_) | refine cw6 (fun gg => ?_) | refine cw7 (fun gg => ?_)); try simp only [gg]) | refine cs1 hG rfl ?_ ?_ | refine cs2 hG rfl ?_ ?_ | ((first | refine kg (hL _ _) rfl hΘ ?_ | refine rga hG (by kernel_rfl) (fun Θ K hΘ hK => ?_) | refine rgb hG (by kernel_rfl) (fun Θ K hΘ hK => ?_) | refine rgc defCl hG (by kernel_rfl) cl0 (by rfl) (by kernel_rfl) (fun Θ K hΘ hcl hn0 hK => ?_) | refine rgd defCl hG (by kernel_rfl) cl0 (by rfl) (by kernel_rfl) (fun Θ K hΘ hcl hn0 hK => ?_)); simp (maxSteps := 2000000) only [go_sem, seval, Nat.reduceEqDiff, Nat.reduceLeDiff, reduceIte, reduceCtorEq, f1]) | ((first | refine Post.splitN (fun gg => ?_) (fun gg => ?_) | refine PostB.splitN (fun gg => ?_) (fun gg => ?_) | refine Post.split (fun gg => ?_) (fun gg => ?_) | refine PostB.split (fun gg => ?_) (fun gg => ?_)) <;> simp (maxSteps := 2000000) only [go_sem, seval, Nat.reduceEqDiff, Nat.reduceLeDiff, reduceIte, reduceCtorEq, gg, f1]) | ((first | refine finR (by simp only [go_sem, seval, Nat.reduceEqDiff, Nat.reduceLeDiff, reduceIte, reduceCtorEq, f1]; exact rfl) ?_ | refine finN (by simp only [go_sem, seval, Nat.reduceEqDiff, Nat.reduceLeDiff, reduceIte, reduceCtorEq, f1]; exact rfl) ?_); simp only [go_sem, seval, Nat.reduceEqDiff, Nat.reduceLeDiff, reduceIte, reduceCtorEq, f1]) | refine updL hM ?_ (by omega) | (with_reducible exact fun _ _ => rfl))
    all_goals (first | omega | (simp only [decide_eq_true_eq, decide_eq_false_iff_not] at *; omega) | (simp only [List.length_append, List.length_cons, List.length_nil] <;> omega) | exact one_bv _ | exact one_sv _ | skip)
