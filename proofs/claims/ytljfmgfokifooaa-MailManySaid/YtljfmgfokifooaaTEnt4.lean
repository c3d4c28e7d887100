/- Part TEnt4 of the proof: made for this claim. -/
import Derived.Test.YtljfmgfokifooaaTEnt3
set_option linter.unusedVariables false
set_option linter.unusedSimpArgs false
set_option maxRecDepth 100000
set_option maxHeartbeats 8000000
open Go.RowKit
namespace Go.VL
open Go.Proofs
theorem lC_flat (l : List Ent) : FlatS (Ent.lC l) := FlatS.rows Ent.flat l
theorem rdAll_if (s : List UInt8) (h : sE s = 0 ∧ ∀ t ∈ sR s, (rdE t).2 = true) : rdAll s = ((sR s).map fun t => (rdE t).1, true) := if_pos h
theorem tkmap {α β : Type} (f : α → β) (l : List α) (i : Nat) (d : α) (h : i < l.length) : (l.take (i + 1)).map f = (l.take i).map f ++ [f (l.getD i d)] := by rw [take_snoc l i d h]; simp
theorem EReadAll_sp (s : List UInt8) : Rt 42 [.flat (.string (bs s))] (.tup [.sl false 73 (rdAll s).1.length (Ent.lC (rdAll s).1), .flat (.int .i64 (if (rdAll s).2 = true then 0 else 4))]) := by
  intro M mn
  refine fnLS (C := kc 39 [33] []) (rs := [.tmp 2, .tmp 3]) envOk Try.func42 (by kernel_rfl) rfl rfl rfl rfl rfl rfl (lowTup (lowC1 (lowSl (lC_flat _)) (lowC1 (Low.flat _) lowC0))) ?_
  intro E hG hM
  by_cases h0 : sE s = 0
  · have f0 : (sE s = 0) = True := eq_true h0
    have hcnt := split_cnt h0
    have hsl := (split_back h0).2
    have hS := Split_sp s
    rw [h0] at hS
    have hall : ∀ i, (∀ j, j < i → (rdE ((sR s).getD j [])).2 = true) → i = (sR s).length → rdAll s = ((sR s).map fun t => (rdE t).1, true) := fun i h hi => rdAll_if s ⟨h0, fun t ht => by
      obtain ⟨k, hk, rfl⟩ := List.getElem_of_mem ht
      have := h k (by omega)
      rwa [List.getD_eq_getElem?_getD, List.getElem?_eq_getElem hk] at this⟩
    generalize hL : sR s = L at *
    repeat' (first | (with_reducible first | refine pa ?_ | refine pb ?_ | refine pc ?_ | refine nxt_n ?_ | refine nxt_e ?_ | refine nxt_r ?_ | refine blk_n ?_ | refine blk_r ?_ | refine blk_hit ?_ | refine blk_miss (by rfl) ?_ | refine pd ?_ | refine pe ?_ | refine pf ?_ | refine pg ?_ | apply And.intro) | (refine hK _ ?_; clear hK K hΘ Θ) | (with_reducible first | refine cw1 ?_ | refine cw2 ?_ | exact cw3 | exact cw4) | ((with_reducible first | refine cw5 (fun gg => ?_) | refine cw6 (fun gg => ?_) | refine cw7 (fun gg => ?_)); try simp only [gg]) | refine cs1 hG rfl ?_ ?_ | refine cs2 hG rfl ?_ ?_ | ((first | refine kg (hS _ _) rfl hΘ ?_ | refine rga hG (by kernel_rfl) (fun Θ K hΘ hK => ?_) | refine rgb hG (by kernel_rfl) (fun Θ K hΘ hK => ?_)); simp (maxSteps := 2000000) only [go_sem, seval, reduceCtorEq, List.append_eq, f0]) | ((first | refine Post.splitN (fun gg => ?_) (fun gg => ?_) | refine Post.split (fun gg => ?_) (fun gg => ?_)) <;> simp (maxSteps := 2000000) only [go_sem, seval, reduceCtorEq, List.append_eq, gg, f0]) | (refine finR (by simp only [go_sem, seval, reduceCtorEq, List.append_eq, f0]; exact rfl) ?_; simp only [go_sem, seval, reduceCtorEq, List.append_eq, f0]) | refine updL hM ?_ (by omega) | (with_reducible exact fun _ _ => rfl))
    all_goals (first | omega | (simp only [decide_eq_true_eq, decide_eq_false_iff_not] at *; omega) | (simp only [List.length_append, List.length_cons, List.length_nil] <;> omega) | exact one_bv _ | exact one_sv _ | skip)
    refine WC.loopA (fun q : Nat × Mem × Nat => ⟨[(21, .flat (.int .i64 q.1)), (20, .flat (.int .i64 L.length)), (19, .sl false 1 L.length (sv L)), (6, .sl true 73 q.1 (Ent.lC ((L.take q.1).map fun t => (rdE t).1)))], q.2.1, q.2.2⟩) (fun q => L.length - q.1) (fun q => q.1 ≤ L.length ∧ (∀ b, M b ≠ none → q.2.1 b = M b) ∧ mn ≤ q.2.2 ∧ ∀ j, j < q.1 → (rdE (L.getD j [])).2 = true) (0, M, mn) ⟨by simp only; omega, fun _ _ => rfl, Nat.le_refl _, fun j h => by simp only at h; omega⟩ (sbs (by simp (maxSteps := 2000000) only [go_sem, seval, reduceCtorEq, List.append_eq, List.take_zero, List.map_nil, Ent.l_nil]) rfl rfl) ?_
    rintro ⟨i, m, n⟩ ⟨hi, hk, hn, hg⟩
    simp only at hi hk hn hg ⊢
    by_cases h : i < L.length
    · have f1 : ((i : Int) < (L.length : Int)) = True := eq_true (by omega)
      have g1 : (i < L.length) = True := eq_true h
      have v1 := wi1 (n := i) (by omega)
      by_cases hr : (rdE (L.getD i [])).2 = true
      · have hA := Ent.l_app ((L.take i).map fun t => (rdE t).1) (rdE (L.getD i [])).1
        rw [← tkmap (fun t => (rdE t).1) L i [] h] at hA
        have hll := Ent.l_len ((L.take i).map fun t => (rdE t).1)
        rw [List.length_map, List.length_take, Nat.min_eq_left (by omega)] at hll
        have ht := Ent.tk (rdE (L.getD i [])).1
        repeat' (first | (with_reducible first | refine pa ?_ | refine pb ?_ | refine pc ?_ | refine nxt_n ?_ | refine nxt_e ?_ | refine nxt_r ?_ | refine blk_n ?_ | refine blk_r ?_ | refine blk_hit ?_ | refine blk_miss (by rfl) ?_ | refine pd ?_ | refine pe ?_ | refine pf ?_ | refine pg ?_ | apply And.intro) | (refine hK _ ?_; clear hK K hΘ Θ) | (with_reducible first | refine cw1 ?_ | refine cw2 ?_ | exact cw3 | exact cw4) | ((with_reducible first | refine cw5 (fun gg => ?_) | refine cw6 (fun gg => ?_) | refine cw7 (fun gg => ?_)); try simp only [gg]) | refine cs1 hG rfl ?_ ?_ | refine cs2 hG rfl ?_ ?_ | ((first | refine kg (ERead_sp (L.getD i []) _ _) rfl hΘ ?_ | refine rga hG (by kernel_rfl) (fun Θ K hΘ hK => ?_) | refine rgb hG (by kernel_rfl) (fun Θ K hΘ hK => ?_)); simp (maxSteps := 2000000) only [go_sem, seval, reduceCtorEq, List.append_eq, f1, g1, v1, hr, hA, hll, ht]) | ((first | refine Post.splitN (fun gg => ?_) (fun gg => ?_) | refine Post.split (fun gg => ?_) (fun gg => ?_)) <;> simp (maxSteps := 2000000) only [go_sem, seval, reduceCtorEq, List.append_eq, gg, f1, g1, v1, hr, hA, hll, ht]) | (refine finR (by simp only [go_sem, seval, reduceCtorEq, List.append_eq, f1, g1, v1, hr, hA, hll, ht]; exact rfl) ?_; simp only [go_sem, seval, reduceCtorEq, List.append_eq, f1, g1, v1, hr, hA, hll, ht]) | refine updL hM ?_ (by omega) | (with_reducible exact fun _ _ => rfl))
        all_goals (first | omega | (simp only [decide_eq_true_eq, decide_eq_false_iff_not] at *; omega) | (simp only [List.length_append, List.length_cons, List.length_nil] <;> omega) | exact one_bv _ | exact one_sv _ | skip)
        refine ⟨(i + 1, upd m n (some (rdE (L.getD i [])).1.c), n + 1), ⟨by simp only; omega, updL hM hk (by omega), by simp only; omega, ?_⟩, by simp only; omega, (sbs (by simp (maxSteps := 2000000) only [go_sem, seval, reduceCtorEq, List.append_eq]) rfl rfl)⟩
        intro j hj
        simp only at hj
        by_cases e : j = i
        · subst e; exact hr
        · exact hg j (by omega)
      · have hr' : (rdE (L.getD i [])).2 = false := by simpa using hr
        have hd : rdAll s = ([], false) := by
          unfold rdAll
          rw [if_neg]
          rintro ⟨_, q⟩
          rw [hL] at q
          exact hr (q _ (by rw [List.getD_eq_getElem?_getD, List.getElem?_eq_getElem h]; exact List.getElem_mem _))
        have e0 : Ent.lC [] = [] := rfl
        rw [hd]
        repeat' (first | (with_reducible first | refine pa ?_ | refine pb ?_ | refine pc ?_ | refine nxt_n ?_ | refine nxt_e ?_ | refine nxt_r ?_ | refine blk_n ?_ | refine blk_r ?_ | refine blk_hit ?_ | refine blk_miss (by rfl) ?_ | refine pd ?_ | refine pe ?_ | refine pf ?_ | refine pg ?_ | apply And.intro) | (refine hK _ ?_; clear hK K hΘ Θ) | (with_reducible first | refine cw1 ?_ | refine cw2 ?_ | exact cw3 | exact cw4) | ((with_reducible first | refine cw5 (fun gg => ?_) | refine cw6 (fun gg => ?_) | refine cw7 (fun gg => ?_)); try simp only [gg]) | refine cs1 hG rfl ?_ ?_ | refine cs2 hG rfl ?_ ?_ | ((first | refine kg (ERead_sp (L.getD i []) _ _) rfl hΘ ?_ | refine rga hG (by kernel_rfl) (fun Θ K hΘ hK => ?_) | refine rgb hG (by kernel_rfl) (fun Θ K hΘ hK => ?_)); simp (maxSteps := 2000000) only [go_sem, seval, reduceCtorEq, List.append_eq, f1, g1, v1, hr', e0]) | ((first | refine Post.splitN (fun gg => ?_) (fun gg => ?_) | refine Post.split (fun gg => ?_) (fun gg => ?_)) <;> simp (maxSteps := 2000000) only [go_sem, seval, reduceCtorEq, List.append_eq, gg, f1, g1, v1, hr', e0]) | (refine finR (by simp only [go_sem, seval, reduceCtorEq, List.append_eq, f1, g1, v1, hr', e0]; exact rfl) ?_; simp only [go_sem, seval, reduceCtorEq, List.append_eq, f1, g1, v1, hr', e0]) | refine updL hM ?_ (by omega) | (with_reducible exact fun _ _ => rfl))
        all_goals (first | omega | (simp only [decide_eq_true_eq, decide_eq_false_iff_not] at *; omega) | (simp only [List.length_append, List.length_cons, List.length_nil] <;> omega) | exact one_bv _ | exact one_sv _ | skip)
    · have f1 : ((i : Int) < (L.length : Int)) = False := eq_false (by omega)
      have hd := hall i hg (by omega)
      have e1 : i = L.length := by omega
      subst e1
      have e2 : (L.map fun t => (rdE t).1).length = L.length := List.length_map _
      rw [hd, List.take_length]
      repeat' (first | (with_reducible first | refine pa ?_ | refine pb ?_ | refine pc ?_ | refine nxt_n ?_ | refine nxt_e ?_ | refine nxt_r ?_ | refine blk_n ?_ | refine blk_r ?_ | refine blk_hit ?_ | refine blk_miss (by rfl) ?_ | refine pd ?_ | refine pe ?_ | refine pf ?_ | refine pg ?_ | apply And.intro) | (refine hK _ ?_; clear hK K hΘ Θ) | (with_reducible first | refine cw1 ?_ | refine cw2 ?_ | exact cw3 | exact cw4) | ((with_reducible first | refine cw5 (fun gg => ?_) | refine cw6 (fun gg => ?_) | refine cw7 (fun gg => ?_)); try simp only [gg]) | refine cs1 hG rfl ?_ ?_ | refine cs2 hG rfl ?_ ?_ | ((first | refine rga hG (by kernel_rfl) (fun Θ K hΘ hK => ?_) | refine rgb hG (by kernel_rfl) (fun Θ K hΘ hK => ?_)); simp (maxSteps := 2000000) only [go_sem, seval, reduceCtorEq, List.append_eq, f1, e2]) | ((first | refine Post.splitN (fun gg => ?_) (fun gg => ?_) | refine Post.split (fun gg => ?_) (fun gg => ?_)) <;> simp (maxSteps := 2000000) only [go_sem, seval, reduceCtorEq, List.append_eq, gg, f1, e2]) | (refine finR (by simp only [go_sem, seval, reduceCtorEq, List.append_eq, f1, e2]; exact rfl) ?_; simp only [go_sem, seval, reduceCtorEq, List.append_eq, f1, e2]) | refine updL hM ?_ (by omega) | (with_reducible exact fun _ _ => rfl))
      all_goals (first | omega | (simp only [decide_eq_true_eq, decide_eq_false_iff_not] at *; omega) | (simp only [List.length_append, List.length_cons, List.length_nil] <;> omega) | exact one_bv _ | exact one_sv _ | skip)
  · have hd : rdAll s = ([], false) := if_neg (fun h => h0 h.1)
    have f0 : (sE s = 0) = False := eq_false h0
    have e4 : sE s = 4 := (sE_04 s).resolve_left h0
    have e0 : Ent.lC [] = [] := rfl
    rw [hd]
    have hS := Split_sp s
    rw [e4] at hS
    repeat' (first | (with_reducible first | refine pa ?_ | refine pb ?_ | refine pc ?_ | refine nxt_n ?_ | refine nxt_e ?_ | refine nxt_r ?_ | refine blk_n ?_ | refine blk_r ?_ | refine blk_hit ?_ | refine blk_miss (by rfl) ?_ | refine pd ?_ | refine pe ?_ | refine pf ?_ | refine pg ?_ | apply And.intro) | (refine hK _ ?_; clear hK K hΘ Θ) | (with_reducible first | refine cw1 ?_ | refine cw2 ?_ | exact cw3 | exact cw4) | ((with_reducible first | refine cw5 (fun gg => ?_) | refine cw6 (fun gg => ?_) | refine cw7 (fun gg => ?_)); try simp only [gg]) | refine cs1 hG rfl ?_ ?_ | refine cs2 hG rfl ?_ ?_ | ((first | refine kg (hS _ _) rfl hΘ ?_ | refine rga hG (by kernel_rfl) (fun Θ K hΘ hK => ?_) | refine rgb hG (by kernel_rfl) (fun Θ K hΘ hK => ?_)); simp (maxSteps := 2000000) only [go_sem, seval, reduceCtorEq, List.append_eq, e0]) | ((first | refine Post.splitN (fun gg => ?_) (fun gg => ?_) | refine Post.split (fun gg => ?_) (fun gg => ?_)) <;> simp (maxSteps := 2000000) only [go_sem, seval, reduceCtorEq, List.append_eq, gg, e0]) | (refine finR (by simp only [go_sem, seval, reduceCtorEq, List.append_eq, e0]; exact rfl) ?_; simp only [go_sem, seval, reduceCtorEq, List.append_eq, e0]) | refine updL hM ?_ (by omega) | (with_reducible exact fun _ _ => rfl))
    all_goals (first | omega | (simp only [decide_eq_true_eq, decide_eq_false_iff_not] at *; omega) | (simp only [List.length_append, List.length_cons, List.length_nil] <;> omega) | exact one_bv _ | exact one_sv _ | skip)
theorem ETexts_sp (l : List Ent) (hok : ∀ e ∈ l, e.ok) (hl : l.length ≤ 10000) : Rt 31 [.sl false 73 l.length (Ent.lC l)] (.flat (.string (bs (textsB l)))) := by
  intro M mn
  refine fnL (C := kc 20 [12] []) (rs := [.tmp 2]) envOk Try.func31 (by kernel_rfl) rfl rfl rfl rfl rfl rfl (Low.flat _) ?_
  intro E hG hM
  repeat' (first | (with_reducible first | refine pa ?_ | refine pb ?_ | refine pc ?_ | refine nxt_n ?_ | refine nxt_e ?_ | refine nxt_r ?_ | refine blk_n ?_ | refine blk_r ?_ | refine blk_hit ?_ | refine blk_miss (by rfl) ?_ | refine pd ?_ | refine pe ?_ | refine pf ?_ | refine pg ?_ | apply And.intro) | (refine hK _ ?_; clear hK K hΘ Θ) | (with_reducible first | refine cw1 ?_ | refine cw2 ?_ | exact cw3 | exact cw4) | ((with_reducible first | refine cw5 (fun gg => ?_) | refine cw6 (fun gg => ?_) | refine cw7 (fun gg => ?_)); try simp only [gg]) | refine cs1 hG rfl ?_ ?_ | refine cs2 hG rfl ?_ ?_ | ((first | refine rga hG (by kernel_rfl) (fun Θ K hΘ hK => ?_) | refine rgb hG (by kernel_rfl) (fun Θ K hΘ hK => ?_)); simp (maxSteps := 2000000) only [go_sem, seval, reduceCtorEq, List.append_eq]) | ((first | refine Post.splitN (fun gg => ?_) (fun gg => ?_) | refine Post.split (fun gg => ?_) (fun gg => ?_)) <;> simp (maxSteps := 2000000) only [go_sem, seval, reduceCtorEq, List.append_eq, gg]) | (refine finR (by simp only [go_sem, seval, reduceCtorEq, List.append_eq]; exact rfl) ?_; simp only [go_sem, seval, reduceCtorEq, List.append_eq]) | refine updL hM ?_ (by omega) | (with_reducible exact fun _ _ => rfl))
  all_goals (first | omega | (simp only [decide_eq_true_eq, decide_eq_false_iff_not] at *; omega) | (simp only [List.length_append, List.length_cons, List.length_nil] <;> omega) | exact one_bv _ | exact one_sv _ | skip)
  refine WC.loopA (fun q : Nat × Mem × Nat => ⟨[(8, .flat (.int .i64 q.1)), (7, .flat (.int .i64 l.length)), (6, .sl false 73 l.length (Ent.lC l)), (3, .sl true 1 q.1 (sv ((l.take q.1).map Ent.text)))], q.2.1, q.2.2⟩) (fun q => l.length - q.1) (fun q => q.1 ≤ l.length ∧ (∀ b, M b ≠ none → q.2.1 b = M b) ∧ mn ≤ q.2.2) (0, M, mn) ⟨by simp only; omega, fun _ _ => rfl, Nat.le_refl _⟩ (sbs (by simp (maxSteps := 2000000) only [go_sem, seval, reduceCtorEq, List.append_eq, List.take_zero, List.map_nil, sv_n]) rfl rfl) ?_
  rintro ⟨i, m, n⟩ ⟨hi, hk, hn⟩
  simp only at hi hk hn ⊢
  by_cases h : i < l.length
  · have f1 : ((i : Int) < (l.length : Int)) = True := eq_true (by omega)
    have g1 : (i < l.length) = True := eq_true h
    have v1 := wi1 (n := i) (by omega)
    have he : (l.getD i ent0).ok := hok _ (by rw [List.getD_eq_getElem?_getD, List.getElem?_eq_getElem h]; exact List.getElem_mem _)
    have hgt := Ent.l_get l ent0 i h
    have hll := Ent.l_len l
    have ht := Ent.tk (l.getD i ent0)
    have hS : sv ((l.take i).map Ent.text) ++ [.flat (.string (bs (l.getD i ent0).text))] = sv ((l.take (i + 1)).map Ent.text) := by rw [sv_snoc, tkmap Ent.text l i ent0 h]
    have hsl : (sv ((l.take i).map Ent.text)).length = i := by rw [sv_length, List.length_map, List.length_take]; omega
    have g2 : (i * 73 + 73 ≤ l.length * 73) = True := eq_true (by omega)
    repeat' (first | (with_reducible first | refine pa ?_ | refine pb ?_ | refine pc ?_ | refine nxt_n ?_ | refine nxt_e ?_ | refine nxt_r ?_ | refine blk_n ?_ | refine blk_r ?_ | refine blk_hit ?_ | refine blk_miss (by rfl) ?_ | refine pd ?_ | refine pe ?_ | refine pf ?_ | refine pg ?_ | apply And.intro) | (refine hK _ ?_; clear hK K hΘ Θ) | (with_reducible first | refine cw1 ?_ | refine cw2 ?_ | exact cw3 | exact cw4) | ((with_reducible first | refine cw5 (fun gg => ?_) | refine cw6 (fun gg => ?_) | refine cw7 (fun gg => ?_)); try simp only [gg]) | refine cs1 hG rfl ?_ ?_ | refine cs2 hG rfl ?_ ?_ | ((first | refine kg (EText_sp (l.getD i ent0) he _ _) rfl hΘ ?_ | refine rga hG (by kernel_rfl) (fun Θ K hΘ hK => ?_) | refine rgb hG (by kernel_rfl) (fun Θ K hΘ hK => ?_)); simp (maxSteps := 2000000) only [go_sem, seval, reduceCtorEq, List.append_eq, f1, g1, v1, hgt, hll, ht, hS, hsl, g2]) | ((first | refine Post.splitN (fun gg => ?_) (fun gg => ?_) | refine Post.split (fun gg => ?_) (fun gg => ?_)) <;> simp (maxSteps := 2000000) only [go_sem, seval, reduceCtorEq, List.append_eq, gg, f1, g1, v1, hgt, hll, ht, hS, hsl, g2]) | (refine finR (by simp only [go_sem, seval, reduceCtorEq, List.append_eq, f1, g1, v1, hgt, hll, ht, hS, hsl, g2]; exact rfl) ?_; simp only [go_sem, seval, reduceCtorEq, List.append_eq, f1, g1, v1, hgt, hll, ht, hS, hsl, g2]) | refine updL hM ?_ (by omega) | (with_reducible exact fun _ _ => rfl))
    all_goals (first | omega | (simp only [decide_eq_true_eq, decide_eq_false_iff_not] at *; omega) | (simp only [List.length_append, List.length_cons, List.length_nil] <;> omega) | exact one_bv _ | exact one_sv _ | skip)
    exact ⟨(i + 1, upd m n (some (l.getD i ent0).c), n + 1), ⟨by simp only; omega, updL hM hk (by omega), by simp only; omega⟩, by simp only; omega, (sbs (by simp (maxSteps := 2000000) only [go_sem, seval, reduceCtorEq, List.append_eq]) rfl rfl)⟩
  · have f1 : ((i : Int) < (l.length : Int)) = False := eq_false (by omega)
    have e1 : i = l.length := by omega
    subst e1
    have htt := total_texts l hok
    have hL := List_sp (l.map Ent.text) (by omega) (by simp; omega)
    rw [List.length_map] at hL
    have hts : listB (l.map Ent.text) = textsB l := rfl
    rw [hts] at hL
    rw [List.take_length]
    repeat' (first | (with_reducible first | refine pa ?_ | refine pb ?_ | refine pc ?_ | refine nxt_n ?_ | refine nxt_e ?_ | refine nxt_r ?_ | refine blk_n ?_ | refine blk_r ?_ | refine blk_hit ?_ | refine blk_miss (by rfl) ?_ | refine pd ?_ | refine pe ?_ | refine pf ?_ | refine pg ?_ | apply And.intro) | (refine hK _ ?_; clear hK K hΘ Θ) | (with_reducible first | refine cw1 ?_ | refine cw2 ?_ | exact cw3 | exact cw4) | ((with_reducible first | refine cw5 (fun gg => ?_) | refine cw6 (fun gg => ?_) | refine cw7 (fun gg => ?_)); try simp only [gg]) | refine cs1 hG rfl ?_ ?_ | refine cs2 hG rfl ?_ ?_ | ((first | refine kg (hL _ _) rfl hΘ ?_ | refine rga hG (by kernel_rfl) (fun Θ K hΘ hK => ?_) | refine rgb hG (by kernel_rfl) (fun Θ K hΘ hK => ?_)); simp (maxSteps := 2000000) only [go_sem, seval, reduceCtorEq, List.append_eq, f1]) | ((first | refine Post.splitN (fun gg => ?_) (fun gg => ?_) | refine Post.split (fun gg => ?_) (fun gg => ?_)) <;> simp (maxSteps := 2000000) only [go_sem, seval, reduceCtorEq, List.append_eq, gg, f1]) | (refine finR (by simp only [go_sem, seval, reduceCtorEq, List.append_eq, f1]; exact rfl) ?_; simp only [go_sem, seval, reduceCtorEq, List.append_eq, f1]) | refine updL hM ?_ (by omega) | (with_reducible exact fun _ _ => rfl))
    all_goals (first | omega | (simp only [decide_eq_true_eq, decide_eq_false_iff_not] at *; omega) | (simp only [List.length_append, List.length_cons, List.length_nil] <;> omega) | exact one_bv _ | exact one_sv _ | skip)
end Go.VL
