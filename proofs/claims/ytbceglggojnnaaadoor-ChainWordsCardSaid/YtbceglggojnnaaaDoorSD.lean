/- Part SD of the proof: made for this claim. -/
import Derived.Test.YtbceglggojnnaaaDoorSC
set_option linter.unusedVariables false
set_option linter.unusedSimpArgs false
set_option maxRecDepth 100000
set_option maxHeartbeats 8000000
open Go.RowKit
namespace Go.VL
open Go.Proofs
theorem CLink_sp (p : Id32) (q : Int) (hq : inR q) (e : Ent) (he : e.ok) : Rt 48 [.agg (bv p.1), .flat (.int .i64 q), .agg e.c] (.agg (bv (linkE p q e).1)) := by
  have n1 : q < 9223372036854775808 := by have := hq.2; omega
  have ht := link_tot p q hq he
  have tb := take_bv32 p
  have hp := p.2
  have tl := take_bv32 (linkE p q e)
  have hS : Rt 63 [.flat (.string (bs [108, 105, 110, 107])), .sl false 1 3 (sv [p.1, numB q.toNat, e.text])] (.agg (bv (linkE p q e).1)) := Sum_sp [108, 105, 110, 107] (linkP p q e) (by simp) (by omega) (by simp [linkP])
  generalize linkE p q e = L at *
  intro M mn
  refine fnL (C := kc 15 [] []) (rs := [.cell 6 52]) envOk Tryd.func48 (by kernel_rfl) rfl rfl rfl rfl rfl rfl (lowAgg (FlatS.bv _)) ?_
  intro E hG hM
  repeat' (first | (with_reducible first | refine pa ?_ | refine pb ?_ | refine pc ?_ | refine nxt_n ?_ | refine nxt_e ?_ | refine nxt_r ?_ | refine blk_n ?_ | refine blk_r ?_ | refine blk_hit ?_ | refine blk_miss (by rfl) ?_ | refine pd ?_ | refine pe ?_ | refine pf ?_ | refine pg ?_ | apply And.intro) | (refine hK _ ?_; first | clear hK K hn0 hcl hΘ Θ | clear hK K hΘ Θ) | (with_reducible first | refine cw1 ?_ | refine cw2 ?_ | exact cw3 | exact cw4) | ((with_reducible first | refine cw5 (fun gg => ?_) | refine cw6 (fun gg => ?_) | refine cw7 (fun gg => ?_)); try simp only [gg]) | refine cs1 hG rfl ?_ ?_ | refine cs2 hG rfl ?_ ?_ | ((first | refine kf (fun M n => Num_sp q n1 M n) rfl (by decide) cl0 hΘ hcl hn0 ?_ | refine kf (fun M n => EText_sp e he M n) rfl (by decide) cl0 hΘ hcl hn0 ?_ | refine kf (fun M n => hS M n) rfl (by decide) cl0 hΘ hcl hn0 ?_ | refine rga hG (by kernel_rfl) (fun Θ K hΘ hK => ?_) | refine rgb hG (by kernel_rfl) (fun Θ K hΘ hK => ?_) | refine rgc defCl hG (by kernel_rfl) cl0 (by rfl) (by kernel_rfl) (fun Θ K hΘ hcl hn0 hK => ?_) | refine rgd defCl hG (by kernel_rfl) cl0 (by rfl) (by kernel_rfl) (fun Θ K hΘ hcl hn0 hK => ?_)); simp (maxSteps := 2000000) only [go_sem, seval, reduceCtorEq, tb, tl, hp]) | ((first | refine Post.splitN (fun gg => ?_) (fun gg => ?_) | refine PostB.splitN (fun gg => ?_) (fun gg => ?_) | refine Post.split (fun gg => ?_) (fun gg => ?_) | refine PostB.split (fun gg => ?_) (fun gg => ?_)) <;> simp (maxSteps := 2000000) only [go_sem, seval, reduceCtorEq, gg, tb, tl, hp]) | (refine finR (by simp only [go_sem, seval, reduceCtorEq, tb, tl, hp]; exact rfl) ?_; simp only [go_sem, seval, reduceCtorEq, tb, tl, hp]) | refine updL hM ?_ (by omega) | (with_reducible exact fun _ _ => rfl))
  all_goals (first | omega | (simp only [decide_eq_true_eq, decide_eq_false_iff_not] at *; omega) | (simp only [List.length_append, List.length_cons, List.length_nil] <;> omega) | exact one_bv _ | exact one_sv _ | skip)
theorem CWord_sp (z q : Int) (hn : inR z) (hq : inR q) (h : Id32) : Rt 36 [.flat (.int .i64 z), .flat (.int .i64 q), .agg (bv h.1)] (.flat (.string (bs (wordB z q h)))) := by
  have n1 : z < 9223372036854775808 := by have := hn.2; omega
  have n2 : q < 9223372036854775808 := by have := hq.2; omega
  have ht := word_tot z q h hn hq
  have tb := take_bv32 h
  have hp := h.2
  have hL : Rt 77 [.sl false 1 4 (sv [[119, 111, 114, 100], numB z.toNat, numB q.toNat, h.1])] (.flat (.string (bs (wordB z q h)))) := List_sp (wordP z q h) (by omega) (by omega)
  intro M mn
  refine fnL (C := kc 15 [] []) (rs := [.tmp 6]) envOk Tryd.func36 (by kernel_rfl) rfl rfl rfl rfl rfl rfl (Low.flat _) ?_
  intro E hG hM
  repeat' (first | (with_reducible first | refine pa ?_ | refine pb ?_ | refine pc ?_ | refine nxt_n ?_ | refine nxt_e ?_ | refine nxt_r ?_ | refine blk_n ?_ | refine blk_r ?_ | refine blk_hit ?_ | refine blk_miss (by rfl) ?_ | refine pd ?_ | refine pe ?_ | refine pf ?_ | refine pg ?_ | apply And.intro) | (refine hK _ ?_; first | clear hK K hn0 hcl hΘ Θ | clear hK K hΘ Θ) | (with_reducible first | refine cw1 ?_ | refine cw2 ?_ | exact cw3 | exact cw4) | ((with_reducible first | refine cw5 (fun gg => ?_) | refine cw6 (fun gg => ?_) | refine cw7 (fun gg => ?_)); try simp only [gg]) | refine cs1 hG rfl ?_ ?_ | refine cs2 hG rfl ?_ ?_ | ((first | refine kf (fun M n => Num_sp z n1 M n) rfl (by decide) cl0 hΘ hcl hn0 ?_ | refine kf (fun M n => Num_sp q n2 M n) rfl (by decide) cl0 hΘ hcl hn0 ?_ | refine kf (fun M n => hL M n) rfl (by decide) cl0 hΘ hcl hn0 ?_ | refine rga hG (by kernel_rfl) (fun Θ K hΘ hK => ?_) | refine rgb hG (by kernel_rfl) (fun Θ K hΘ hK => ?_) | refine rgc defCl hG (by kernel_rfl) cl0 (by rfl) (by kernel_rfl) (fun Θ K hΘ hcl hn0 hK => ?_) | refine rgd defCl hG (by kernel_rfl) cl0 (by rfl) (by kernel_rfl) (fun Θ K hΘ hcl hn0 hK => ?_)); simp (maxSteps := 2000000) only [go_sem, seval, reduceCtorEq, tb, hp]) | ((first | refine Post.splitN (fun gg => ?_) (fun gg => ?_) | refine PostB.splitN (fun gg => ?_) (fun gg => ?_) | refine Post.split (fun gg => ?_) (fun gg => ?_) | refine PostB.split (fun gg => ?_) (fun gg => ?_)) <;> simp (maxSteps := 2000000) only [go_sem, seval, reduceCtorEq, gg, tb, hp]) | (refine finR (by simp only [go_sem, seval, reduceCtorEq, tb, hp]; exact rfl) ?_; simp only [go_sem, seval, reduceCtorEq, tb, hp]) | refine updL hM ?_ (by omega) | (with_reducible exact fun _ _ => rfl))
  all_goals (first | omega | (simp only [decide_eq_true_eq, decide_eq_false_iff_not] at *; omega) | (simp only [List.length_append, List.length_cons, List.length_nil] <;> omega) | exact one_bv _ | exact one_sv _ | skip)
theorem ids_app (l : List Id32) (x : Id32) : idsC l ++ bv x.1 = idsC (l ++ [x]) := by simp [idsC]
theorem ids_len (l : List Id32) : (idsC l).length = l.length * 32 := by
  unfold idsC
  rw [flatten_len 32 _ (fun c hc => by obtain ⟨x, _, rfl⟩ := List.mem_map.1 hc; rw [bv_length]; exact x.2), List.length_map]
theorem CWalk_sp (p : Id32) (q : Int) (l : List Ent) (hok : ∀ e ∈ l, e.ok) (hl : l.length ≤ 1000000) (hq : inR q) (hq2 : q ≤ 9223372036853000000) : Rt 31 [.agg (bv p.1), .flat (.int .i64 q), .sl false 73 l.length (Ent.lC l)] (.sl false 32 l.length (idsC (walkL p q l))) := by
  have q1 := hq.1
  have tbp : ∀ x : Id32, (bv x.1).take 32 = bv x.1 := take_bv32
  have hp : ∀ x : Id32, x.1.length = 32 := fun x => x.2
  intro M mn
  refine fnLS (C := kc 29 [23] []) (rs := [.tmp 6]) envOk Tryd.func31 (by kernel_rfl) rfl rfl rfl rfl rfl rfl (lowSl (idsC_flat _)) ?_
  intro E hG hM
  repeat' (first | (with_reducible first | refine pa ?_ | refine pb ?_ | refine pc ?_ | refine nxt_n ?_ | refine nxt_e ?_ | refine nxt_r ?_ | refine blk_n ?_ | refine blk_r ?_ | refine blk_hit ?_ | refine blk_miss (by rfl) ?_ | refine pd ?_ | refine pe ?_ | refine pf ?_ | refine pg ?_ | apply And.intro) | (refine hK _ ?_; clear hK K hΘ Θ) | (with_reducible first | refine cw1 ?_ | refine cw2 ?_ | exact cw3 | exact cw4) | ((with_reducible first | refine cw5 (fun gg => ?_) | refine cw6 (fun gg => ?_) | refine cw7 (fun gg => ?_)); try simp only [gg]) | refine cs1 hG rfl ?_ ?_ | refine cs2 hG rfl ?_ ?_ | ((first | refine rga hG (by kernel_rfl) (fun Θ K hΘ hK => ?_) | refine rgb hG (by kernel_rfl) (fun Θ K hΘ hK => ?_)); simp (maxSteps := 2000000) only [go_sem, seval, reduceCtorEq, List.append_eq]) | ((first | refine Post.splitN (fun gg => ?_) (fun gg => ?_) | refine Post.split (fun gg => ?_) (fun gg => ?_)) <;> simp (maxSteps := 2000000) only [go_sem, seval, reduceCtorEq, List.append_eq, gg]) | (refine finR (by simp only [go_sem, seval, reduceCtorEq, List.append_eq]; exact rfl) ?_; simp only [go_sem, seval, reduceCtorEq, List.append_eq]) | refine updL hM ?_ (by omega) | (with_reducible exact fun _ _ => rfl))
  all_goals (first | omega | (simp only [decide_eq_true_eq, decide_eq_false_iff_not] at *; omega) | (simp only [List.length_append, List.length_cons, List.length_nil] <;> omega) | exact one_bv _ | exact one_sv _ | skip)
  refine WC.loopA (fun s : Nat × Mem × Nat => ⟨[(12, .flat (.int .i64 s.1)), (11, .flat (.int .i64 l.length)), (10, .sl false 73 l.length (Ent.lC l)), (7, .sl true 32 s.1 (idsC (walkL p q (l.take s.1)))), (3, .bp mn 0), (1, .flat (.int .i64 q))], s.2.1, s.2.2⟩) (fun s => l.length - s.1) (fun s => s.1 ≤ l.length ∧ (∀ b, M b ≠ none → s.2.1 b = M b) ∧ mn + 1 ≤ s.2.2 ∧ s.2.1 mn = some (bv (lastL p q (l.take s.1)).1)) (0, upd M mn (some (bv p.1)), mn + 1) ⟨by simp only; omega, updL hM (fun _ _ => rfl) (Nat.le_refl _), Nat.le_refl _, by simp [upd, lastL_nil]⟩ (sbs (by simp (maxSteps := 2000000) only [go_sem, seval, reduceCtorEq, List.append_eq, List.take_zero, walkL, idsC_nil]) rfl rfl) ?_
  rintro ⟨i, μ, n⟩ ⟨hi, hk, hn, hb⟩
  simp only at hi hk hn hb ⊢
  by_cases h : i < l.length
  · have f1 : ((i : Int) < (l.length : Int)) = True := eq_true (by omega)
    have g1 : (i < l.length) = True := eq_true h
    have v1 := wi1 (n := i) (by omega)
    have v2 : IntKind.i64.wrap (q + (i : Int)) = q + (i : Int) := wi (by omega) (by omega)
    have he : (l.getD i ent0).ok := hok _ (by rw [List.getD_eq_getElem?_getD, List.getElem?_eq_getElem h]; exact List.getElem_mem _)
    have hgt := Ent.l_get l ent0 i h
    have hll := Ent.l_len l
    have ht1 := Ent.tk (l.getD i ent0)
    have g2 : (i * 73 + 73 ≤ l.length * 73) = True := eq_true (by omega)
    have hL := CLink_sp (lastL p q (l.take i)) (q + i) (by unfold inR; omega) (l.getD i ent0) he
    have hw := walkL_take l p q i ent0 h
    have hla := lastL_take l p q i ent0 h
    have hA := ids_app (walkL p q (l.take i)) (linkE (lastL p q (l.take i)) (q + i) (l.getD i ent0))
    rw [← hw] at hA
    have hil := ids_len (walkL p q (l.take i))
    rw [walkL_len, List.length_take, Nat.min_eq_left (by omega)] at hil
    have hnm : n ≠ mn := by omega
    have u1 : ∀ (A : Mem) z, upd A n z mn = A mn := fun A z => upd_ne _ _ (by omega)
    have u2 : ∀ (A : Mem) z, upd A mn z n = A n := fun A z => upd_ne _ _ (by omega)
    rw [← hla] at hL hA
    repeat' (first | (with_reducible first | refine pa ?_ | refine pb ?_ | refine pc ?_ | refine nxt_n ?_ | refine nxt_e ?_ | refine nxt_r ?_ | refine blk_n ?_ | refine blk_r ?_ | refine blk_hit ?_ | refine blk_miss (by rfl) ?_ | refine pd ?_ | refine pe ?_ | refine pf ?_ | refine pg ?_ | apply And.intro) | (refine hK _ ?_; clear hK K hΘ Θ) | (with_reducible first | refine cw1 ?_ | refine cw2 ?_ | exact cw3 | exact cw4) | ((with_reducible first | refine cw5 (fun gg => ?_) | refine cw6 (fun gg => ?_) | refine cw7 (fun gg => ?_)); try simp only [gg]) | refine cs1 hG rfl ?_ ?_ | refine cs2 hG rfl ?_ ?_ | ((first | refine kg (hL _ _) rfl hΘ ?_ | refine rga hG (by kernel_rfl) (fun Θ K hΘ hK => ?_) | refine rgb hG (by kernel_rfl) (fun Θ K hΘ hK => ?_)); simp (maxSteps := 2000000) only [go_sem, seval, reduceCtorEq, List.append_eq, f1, g1, v1, v2, hgt, hll, ht1, g2, hb, u1, u2, tbp, hp, hA, hil]) | ((first | refine Post.splitN (fun gg => ?_) (fun gg => ?_) | refine Post.split (fun gg => ?_) (fun gg => ?_)) <;> simp (maxSteps := 2000000) only [go_sem, seval, reduceCtorEq, List.append_eq, gg, f1, g1, v1, v2, hgt, hll, ht1, g2, hb, u1, u2, tbp, hp, hA, hil]) | (refine finR (by simp only [go_sem, seval, reduceCtorEq, List.append_eq, f1, g1, v1, v2, hgt, hll, ht1, g2, hb, u1, u2, tbp, hp, hA, hil]; exact rfl) ?_; simp only [go_sem, seval, reduceCtorEq, List.append_eq, f1, g1, v1, v2, hgt, hll, ht1, g2, hb, u1, u2, tbp, hp, hA, hil]) | refine updL hM ?_ (by omega) | (with_reducible exact fun _ _ => rfl))
    all_goals (first | omega | (simp only [decide_eq_true_eq, decide_eq_false_iff_not] at *; omega) | (simp only [List.length_append, List.length_cons, List.length_nil] <;> omega) | exact one_bv _ | exact one_sv _ | skip)
    refine ⟨(i + 1, upd (upd μ n (some (l.getD i ent0).c)) mn (some (bv (lastL p q (l.take (i + 1))).1)), n + 1), ⟨by simp only; omega, fun b hb2 => ?_, by simp only; omega, upd_same _ _ _⟩, by simp only; omega, (sbs (by simp (maxSteps := 2000000) only [go_sem, seval, reduceCtorEq, List.append_eq]) rfl rfl)⟩
    have hlt : b < mn := Nat.lt_of_not_le fun k => hb2 (hM b k)
    simp only
    rw [upd_ne _ _ (by omega), upd_ne _ _ (by omega)]
    exact hk b hb2
  · have f1 : ((i : Int) < (l.length : Int)) = False := eq_false (by omega)
    have e1 : i = l.length := by omega
    subst e1
    rw [List.take_length]
    repeat' (first | (with_reducible first | refine pa ?_ | refine pb ?_ | refine pc ?_ | refine nxt_n ?_ | refine nxt_e ?_ | refine nxt_r ?_ | refine blk_n ?_ | refine blk_r ?_ | refine blk_hit ?_ | refine blk_miss (by rfl) ?_ | refine pd ?_ | refine pe ?_ | refine pf ?_ | refine pg ?_ | apply And.intro) | (refine hK _ ?_; clear hK K hΘ Θ) | (with_reducible first | refine cw1 ?_ | refine cw2 ?_ | exact cw3 | exact cw4) | ((with_reducible first | refine cw5 (fun gg => ?_) | refine cw6 (fun gg => ?_) | refine cw7 (fun gg => ?_)); try simp only [gg]) | refine cs1 hG rfl ?_ ?_ | refine cs2 hG rfl ?_ ?_ | ((first | refine rga hG (by kernel_rfl) (fun Θ K hΘ hK => ?_) | refine rgb hG (by kernel_rfl) (fun Θ K hΘ hK => ?_)); simp (maxSteps := 2000000) only [go_sem, seval, reduceCtorEq, List.append_eq, f1]) | ((first | refine Post.splitN (fun gg => ?_) (fun gg => ?_) | refine Post.split (fun gg => ?_) (fun gg => ?_)) <;> simp (maxSteps := 2000000) only [go_sem, seval, reduceCtorEq, List.append_eq, gg, f1]) | (refine finR (by simp only [go_sem, seval, reduceCtorEq, List.append_eq, f1]; exact rfl) ?_; simp only [go_sem, seval, reduceCtorEq, List.append_eq, f1]) | refine updL hM ?_ (by omega) | (with_reducible exact fun _ _ => rfl))
    all_goals (first | omega | (simp only [decide_eq_true_eq, decide_eq_false_iff_not] at *; omega) | (simp only [List.length_append, List.length_cons, List.length_nil] <;> omega) | exact one_bv _ | exact one_sv _ | skip)
theorem CCheck_sp (a : Au) (ha : a.ok) (l : List Nd) (hok : ∀ n ∈ l, inR n.height) (hl : l.length ≤ 1000000) : Rt 34 [.agg a.c, .sl false 17 l.length (Nd.lC l)] (.flat (.bool (chkE a l))) := by
  obtain ⟨⟨a1, a2⟩, ⟨b1, b2⟩, hs⟩ := id ha
  by_cases h1 : 0 ≤ a.node
  case neg =>
    have f1 : (a.node ≥ 0) = False := eq_false (by omega)
    rw [chkE_no (fun q => h1 q.1)]
    intro M mn
    refine fnL (C := kc 40 [] []) (rs := [.tmp 4]) envOk Tryd.func34 (by kernel_rfl) rfl rfl rfl rfl rfl rfl (Low.flat _) ?_
    intro E hG hM
    repeat' (first | (with_reducible first | refine pa ?_ | refine pb ?_ | refine pc ?_ | refine nxt_n ?_ | refine nxt_e ?_ | refine nxt_r ?_ | refine blk_n ?_ | refine blk_r ?_ | refine blk_hit ?_ | refine blk_miss (by rfl) ?_ | refine pd ?_ | refine pe ?_ | refine pf ?_ | refine pg ?_ | apply And.intro) | (refine hK _ ?_; first | clear hK K hn0 hcl hΘ Θ | clear hK K hΘ Θ) | (with_reducible first | refine cw1 ?_ | refine cw2 ?_ | exact cw3 | exact cw4) | ((with_reducible first | refine cw5 (fun gg => ?_) | refine cw6 (fun gg => ?_) | refine cw7 (fun gg => ?_)); try simp only [gg]) | refine cs1 hG rfl ?_ ?_ | refine cs2 hG rfl ?_ ?_ | ((first | refine rga hG (by kernel_rfl) (fun Θ K hΘ hK => ?_) | refine rgb hG (by kernel_rfl) (fun Θ K hΘ hK => ?_) | refine rgc defCl hG (by kernel_rfl) cl0 (by rfl) (by kernel_rfl) (fun Θ K hΘ hcl hn0 hK => ?_) | refine rgd defCl hG (by kernel_rfl) cl0 (by rfl) (by kernel_rfl) (fun Θ K hΘ hcl hn0 hK => ?_)); simp (maxSteps := 2000000) only [go_sem, seval, reduceCtorEq, f1]) | ((first | refine Post.splitN (fun gg => ?_) (fun gg => ?_) | refine PostB.splitN (fun gg => ?_) (fun gg => ?_) | refine Post.split (fun gg => ?_) (fun gg => ?_) | refine PostB.split (fun gg => ?_) (fun gg => ?_)) <;> simp (maxSteps := 2000000) only [go_sem, seval, reduceCtorEq, gg, f1]) | (refine finR (by simp only [go_sem, seval, reduceCtorEq, f1]; exact rfl) ?_; simp only [go_sem, seval, reduceCtorEq, f1]) | refine updL hM ?_ (by omega) | (with_reducible exact fun _ _ => rfl))
    all_goals (first | omega | (simp only [decide_eq_true_eq, decide_eq_false_iff_not] at *; omega) | (simp only [List.length_append, List.length_cons, List.length_nil] <;> omega) | exact one_bv _ | exact one_sv _ | skip)
  have f1 : (a.node ≥ 0) = True := eq_true h1
  by_cases h2 : a.node < (l.length : Int)
  case neg =>
    have f2 := eq_false h2
    rw [chkE_no (fun q => h2 q.2.1)]
    intro M mn
    refine fnL (C := kc 40 [] []) (rs := [.tmp 4]) envOk Tryd.func34 (by kernel_rfl) rfl rfl rfl rfl rfl rfl (Low.flat _) ?_
    intro E hG hM
    repeat' (first | (with_reducible first | refine pa ?_ | refine pb ?_ | refine pc ?_ | refine nxt_n ?_ | refine nxt_e ?_ | refine nxt_r ?_ | refine blk_n ?_ | refine blk_r ?_ | refine blk_hit ?_ | refine blk_miss (by rfl) ?_ | refine pd ?_ | refine pe ?_ | refine pf ?_ | refine pg ?_ | apply And.intro) | (refine hK _ ?_; first | clear hK K hn0 hcl hΘ Θ | clear hK K hΘ Θ) | (with_reducible first | refine cw1 ?_ | refine cw2 ?_ | exact cw3 | exact cw4) | ((with_reducible first | refine cw5 (fun gg => ?_) | refine cw6 (fun gg => ?_) | refine cw7 (fun gg => ?_)); try simp only [gg]) | refine cs1 hG rfl ?_ ?_ | refine cs2 hG rfl ?_ ?_ | ((first | refine rga hG (by kernel_rfl) (fun Θ K hΘ hK => ?_) | refine rgb hG (by kernel_rfl) (fun Θ K hΘ hK => ?_) | refine rgc defCl hG (by kernel_rfl) cl0 (by rfl) (by kernel_rfl) (fun Θ K hΘ hcl hn0 hK => ?_) | refine rgd defCl hG (by kernel_rfl) cl0 (by rfl) (by kernel_rfl) (fun Θ K hΘ hcl hn0 hK => ?_)); simp (maxSteps := 2000000) only [go_sem, seval, reduceCtorEq, f1, f2]) | ((first | refine Post.splitN (fun gg => ?_) (fun gg => ?_) | refine PostB.splitN (fun gg => ?_) (fun gg => ?_) | refine Post.split (fun gg => ?_) (fun gg => ?_) | refine PostB.split (fun gg => ?_) (fun gg => ?_)) <;> simp (maxSteps := 2000000) only [go_sem, seval, reduceCtorEq, gg, f1, f2]) | (refine finR (by simp only [go_sem, seval, reduceCtorEq, f1, f2]; exact rfl) ?_; simp only [go_sem, seval, reduceCtorEq, f1, f2]) | refine updL hM ?_ (by omega) | (with_reducible exact fun _ _ => rfl))
    all_goals (first | omega | (simp only [decide_eq_true_eq, decide_eq_false_iff_not] at *; omega) | (simp only [List.length_append, List.length_cons, List.length_nil] <;> omega) | exact one_bv _ | exact one_sv _ | skip)
  have f2 := eq_true h2
  by_cases h3 : 0 < a.seq
  case neg =>
    have f3 : (a.seq > 0) = False := eq_false (by omega)
    rw [chkE_no (fun q => h3 q.2.2)]
    intro M mn
    refine fnL (C := kc 40 [] []) (rs := [.tmp 4]) envOk Tryd.func34 (by kernel_rfl) rfl rfl rfl rfl rfl rfl (Low.flat _) ?_
    intro E hG hM
    repeat' (first | (with_reducible first | refine pa ?_ | refine pb ?_ | refine pc ?_ | refine nxt_n ?_ | refine nxt_e ?_ | refine nxt_r ?_ | refine blk_n ?_ | refine blk_r ?_ | refine blk_hit ?_ | refine blk_miss (by rfl) ?_ | refine pd ?_ | refine pe ?_ | refine pf ?_ | refine pg ?_ | apply And.intro) | (refine hK _ ?_; first | clear hK K hn0 hcl hΘ Θ | clear hK K hΘ Θ) | (with_reducible first | refine cw1 ?_ | refine cw2 ?_ | exact cw3 | exact cw4) | ((with_reducible first | refine cw5 (fun gg => ?_) | refine cw6 (fun gg => ?_) | refine cw7 (fun gg => ?_)); try simp only [gg]) | refine cs1 hG rfl ?_ ?_ | refine cs2 hG rfl ?_ ?_ | ((first | refine rga hG (by kernel_rfl) (fun Θ K hΘ hK => ?_) | refine rgb hG (by kernel_rfl) (fun Θ K hΘ hK => ?_) | refine rgc defCl hG (by kernel_rfl) cl0 (by rfl) (by kernel_rfl) (fun Θ K hΘ hcl hn0 hK => ?_) | refine rgd defCl hG (by kernel_rfl) cl0 (by rfl) (by kernel_rfl) (fun Θ K hΘ hcl hn0 hK => ?_)); simp (maxSteps := 2000000) only [go_sem, seval, reduceCtorEq, f1, f2, f3]) | ((first | refine Post.splitN (fun gg => ?_) (fun gg => ?_) | refine PostB.splitN (fun gg => ?_) (fun gg => ?_) | refine Post.split (fun gg => ?_) (fun gg => ?_) | refine PostB.split (fun gg => ?_) (fun gg => ?_)) <;> simp (maxSteps := 2000000) only [go_sem, seval, reduceCtorEq, gg, f1, f2, f3]) | (refine finR (by simp only [go_sem, seval, reduceCtorEq, f1, f2, f3]; exact rfl) ?_; simp only [go_sem, seval, reduceCtorEq, f1, f2, f3]) | refine updL hM ?_ (by omega) | (with_reducible exact fun _ _ => rfl))
    all_goals (first | omega | (simp only [decide_eq_true_eq, decide_eq_false_iff_not] at *; omega) | (simp only [List.length_append, List.length_cons, List.length_nil] <;> omega) | exact one_bv _ | exact one_sv _ | skip)
  have f3 : (a.seq > 0) = True := eq_true (by omega)
  rw [chkE_yes ⟨h1, h2, h3⟩]
  obtain ⟨node, seq, hash, sig⟩ := a
  simp only at *
  obtain ⟨k, rfl⟩ : ∃ k : Nat, node = k := ⟨node.toNat, by omega⟩
  have hk : k < l.length := by omega
  have g1 : (k < l.length) = True := eq_true hk
  have hmem : l.getD k nd0 ∈ l := by rw [List.getD_eq_getElem?_getD, List.getElem?_eq_getElem hk]; exact List.getElem_mem _
  have hgt := Nd.l_get l nd0 k hk
  have hll := Nd.l_len l
  have ht1 := Nd.tk (l.getD k nd0)
  have g2 : (k * 17 + 17 ≤ l.length * 17) = True := eq_true (by omega)
  have v1 : IntKind.i64.wrap (seq - 1) = seq - 1 := wi (by omega) (by omega)
  have tb := take_bv32 hash
  have hwl := word_le k seq hash ⟨a1, a2⟩ ⟨b1, b2⟩
  have hW := CWord_sp k seq ⟨a1, a2⟩ ⟨b1, b2⟩ hash
  have hV := Verify_sp (l.getD k nd0) (hok _ hmem) (seq - 1) (by unfold inR; omega) (wordB k seq hash) (by omega) sig (by omega)
  rw [Int.toNat_natCast]
  intro M mn
  refine fnL (C := kc 40 [] []) (rs := [.tmp 4]) envOk Tryd.func34 (by kernel_rfl) rfl rfl rfl rfl rfl rfl (Low.flat _) ?_
  intro E hG hM
  repeat' (first | (with_reducible first | refine pa ?_ | refine pb ?_ | refine pc ?_ | refine nxt_n ?_ | refine nxt_e ?_ | refine nxt_r ?_ | refine blk_n ?_ | refine blk_r ?_ | refine blk_hit ?_ | refine blk_miss (by rfl) ?_ | refine pd ?_ | refine pe ?_ | refine pf ?_ | refine pg ?_ | apply And.intro) | (refine hK _ ?_; first | clear hK K hn0 hcl hΘ Θ | clear hK K hΘ Θ) | (with_reducible first | refine cw1 ?_ | refine cw2 ?_ | exact cw3 | exact cw4) | ((with_reducible first | refine cw5 (fun gg => ?_) | refine cw6 (fun gg => ?_) | refine cw7 (fun gg => ?_)); try simp only [gg]) | refine cs1 hG rfl ?_ ?_ | refine cs2 hG rfl ?_ ?_ | ((first | refine kf (fun M n => hW M n) rfl (by decide) cl0 hΘ hcl hn0 ?_ | refine kf (fun M n => hV M n) rfl (by decide) cl0 hΘ hcl hn0 ?_ | refine rga hG (by kernel_rfl) (fun Θ K hΘ hK => ?_) | refine rgb hG (by kernel_rfl) (fun Θ K hΘ hK => ?_) | refine rgc defCl hG (by kernel_rfl) cl0 (by rfl) (by kernel_rfl) (fun Θ K hΘ hcl hn0 hK => ?_) | refine rgd defCl hG (by kernel_rfl) cl0 (by rfl) (by kernel_rfl) (fun Θ K hΘ hcl hn0 hK => ?_)); simp (maxSteps := 2000000) only [go_sem, seval, reduceCtorEq, f1, f2, f3, g1, g2, hgt, hll, ht1, v1, tb]) | ((first | refine Post.splitN (fun gg => ?_) (fun gg => ?_) | refine PostB.splitN (fun gg => ?_) (fun gg => ?_) | refine Post.split (fun gg => ?_) (fun gg => ?_) | refine PostB.split (fun gg => ?_) (fun gg => ?_)) <;> simp (maxSteps := 2000000) only [go_sem, seval, reduceCtorEq, gg, f1, f2, f3, g1, g2, hgt, hll, ht1, v1, tb]) | (refine finR (by simp only [go_sem, seval, reduceCtorEq, f1, f2, f3, g1, g2, hgt, hll, ht1, v1, tb]; exact rfl) ?_; simp only [go_sem, seval, reduceCtorEq, f1, f2, f3, g1, g2, hgt, hll, ht1, v1, tb]) | refine updL hM ?_ (by omega) | (with_reducible exact fun _ _ => rfl))
  all_goals (first | omega | (simp only [decide_eq_true_eq, decide_eq_false_iff_not] at *; omega) | (simp only [List.length_append, List.length_cons, List.length_nil] <;> omega) | exact one_bv _ | exact one_sv _ | skip)
end Go.VL

set_option linter.unusedVariables false
set_option linter.unusedSimpArgs false
set_option maxRecDepth 100000
set_option maxHeartbeats 8000000
open Go.RowKit
namespace Go.VL
open Go.Proofs
theorem RNum_sp (n : Nat) (hn : n < 9223372036854775808) : Rt 67 [.flat (.int .i64 n)] (.flat (.string (bs (numB n)))) := by
  intro M mn
  refine fnL (C := kc 24 [] []) (rs := [.tmp 2]) envOk Tryd.func67 (by kernel_rfl) rfl rfl rfl rfl rfl rfl (Low.flat _) ?_
  intro E hG hM
  repeat' (first | (with_reducible first | refine pa ?_ | refine pb ?_ | refine pc ?_ | refine nxt_n ?_ | refine nxt_e ?_ | refine nxt_r ?_ | refine blk_n ?_ | refine blk_r ?_ | refine blk_hit ?_ | refine blk_miss (by rfl) ?_ | refine pd ?_ | refine pe ?_ | refine pf ?_ | refine pg ?_ | apply And.intro) | (refine hK _ ?_; clear hK K hΘ Θ) | (with_reducible first | refine cw1 ?_ | refine cw2 ?_ | exact cw3 | exact cw4) | ((with_reducible first | refine cw5 (fun gg => ?_) | refine cw6 (fun gg => ?_) | refine cw7 (fun gg => ?_)); try simp only [gg]) | refine cs1 hG rfl ?_ ?_ | refine cs2 hG rfl ?_ ?_ | ((first | refine rga hG (by kernel_rfl) (fun Θ K hΘ hK => ?_) | refine rgb hG (by kernel_rfl) (fun Θ K hΘ hK => ?_)); simp (maxSteps := 2000000) only [go_sem, seval, reduceCtorEq]) | ((first | refine Post.splitN (fun gg => ?_) (fun gg => ?_) | refine Post.split (fun gg => ?_) (fun gg => ?_)) <;> simp (maxSteps := 2000000) only [go_sem, seval, reduceCtorEq, gg]) | (refine finR (by simp only [go_sem, seval, reduceCtorEq]; exact rfl) ?_; simp only [go_sem, seval, reduceCtorEq]) | refine updL hM ?_ (by omega) | (with_reducible exact fun _ _ => rfl))
  all_goals (first | omega | (simp only [decide_eq_true_eq, decide_eq_false_iff_not] at *; omega) | (simp only [List.length_append, List.length_cons, List.length_nil] <;> omega) | exact one_bv _ | exact one_sv _ | skip)
  refine WC.loopA (fun q : Nat × List UInt8 => ⟨[(4, .flat (.int .i64 q.2.length)), (3, .flat (.string (bs q.2))), (0, .flat (.int .i64 q.1))], M, mn⟩) (fun q => q.1) (fun q => q.1 ≤ n ∧ (le q.1).reverse ++ q.2 = (le n).reverse) (n, []) ⟨Nat.le_refl _, by simp⟩ (sbs (by simp (maxSteps := 2000000) only [go_sem, seval, reduceCtorEq, List.append_eq, List.length_nil, bs_empty]) rfl rfl) ?_
  rintro ⟨x, post⟩ ⟨hxn, hpost⟩
  simp only at hxn hpost ⊢
  have hl8 : (le n).length ≤ 8 := le_length 8 _ (by omega)
  have hl : post.length ≤ 8 := by
    have := congrArg List.length hpost
    rw [List.length_append, List.length_reverse, List.length_reverse] at this; omega
  by_cases hx : 0 < x
  · have f1 : ((x : Int) > 0) = True := eq_true (by omega)
    have v1 := wi1 (n := post.length) (by omega)
    have v2 : (x : Int).tmod 256 = ((x % 256 : Nat) : Int) := tmodN x 256
    have v3 : quoI .i64 (x : Int) 256 = _ := quoN x 256 (by omega)
    repeat' (first | (with_reducible first | refine pa ?_ | refine pb ?_ | refine pc ?_ | refine nxt_n ?_ | refine nxt_e ?_ | refine nxt_r ?_ | refine blk_n ?_ | refine blk_r ?_ | refine blk_hit ?_ | refine blk_miss (by rfl) ?_ | refine pd ?_ | refine pe ?_ | refine pf ?_ | refine pg ?_ | apply And.intro) | (refine hK _ ?_; clear hK K hΘ Θ) | (with_reducible first | refine cw1 ?_ | refine cw2 ?_ | exact cw3 | exact cw4) | ((with_reducible first | refine cw5 (fun gg => ?_) | refine cw6 (fun gg => ?_) | refine cw7 (fun gg => ?_)); try simp only [gg]) | refine cs1 hG rfl ?_ ?_ | refine cs2 hG rfl ?_ ?_ | ((first | refine rga hG (by kernel_rfl) (fun Θ K hΘ hK => ?_) | refine rgb hG (by kernel_rfl) (fun Θ K hΘ hK => ?_)); simp (maxSteps := 2000000) only [go_sem, seval, reduceCtorEq, f1, v1, v2, v3, w_byteN]) | ((first | refine Post.splitN (fun gg => ?_) (fun gg => ?_) | refine Post.split (fun gg => ?_) (fun gg => ?_)) <;> simp (maxSteps := 2000000) only [go_sem, seval, reduceCtorEq, gg, f1, v1, v2, v3, w_byteN]) | (refine finR (by simp only [go_sem, seval, reduceCtorEq, f1, v1, v2, v3, w_byteN]; exact rfl) ?_; simp only [go_sem, seval, reduceCtorEq, f1, v1, v2, v3, w_byteN]) | refine updL hM ?_ (by omega) | (with_reducible exact fun _ _ => rfl))
    all_goals (first | omega | (simp only [decide_eq_true_eq, decide_eq_false_iff_not] at *; omega) | (simp only [List.length_append, List.length_cons, List.length_nil] <;> omega) | exact one_bv _ | exact one_sv _ | skip)
    exact ⟨(x / 256, UInt8.ofNat (x % 256) :: post), ⟨by simp only; omega, by simp only; rw [← hpost, le_pos (n := x) (by omega)]; simp⟩, by simp only; omega, (sbs (by simp (maxSteps := 2000000) only [go_sem, seval, reduceCtorEq, List.append_eq, List.length_cons]) rfl rfl)⟩
  · have f1 : ((x : Int) > 0) = False := eq_false (by omega)
    have hx : x = 0 := by omega
    subst hx
    have hpe : post = (le n).reverse := by rw [← hpost, le_zero]; rfl
    have hr : numB n = UInt8.ofNat post.length :: post := by rw [numB, hpe, List.length_reverse]
    rw [hr]
    repeat' (first | (with_reducible first | refine pa ?_ | refine pb ?_ | refine pc ?_ | refine nxt_n ?_ | refine nxt_e ?_ | refine nxt_r ?_ | refine blk_n ?_ | refine blk_r ?_ | refine blk_hit ?_ | refine blk_miss (by rfl) ?_ | refine pd ?_ | refine pe ?_ | refine pf ?_ | refine pg ?_ | apply And.intro) | (refine hK _ ?_; clear hK K hΘ Θ) | (with_reducible first | refine cw1 ?_ | refine cw2 ?_ | exact cw3 | exact cw4) | ((with_reducible first | refine cw5 (fun gg => ?_) | refine cw6 (fun gg => ?_) | refine cw7 (fun gg => ?_)); try simp only [gg]) | refine cs1 hG rfl ?_ ?_ | refine cs2 hG rfl ?_ ?_ | ((first | refine rga hG (by kernel_rfl) (fun Θ K hΘ hK => ?_) | refine rgb hG (by kernel_rfl) (fun Θ K hΘ hK => ?_)); simp (maxSteps := 2000000) only [go_sem, seval, reduceCtorEq, f1, w_byteN]) | ((first | refine Post.splitN (fun gg => ?_) (fun gg => ?_) | refine Post.split (fun gg => ?_) (fun gg => ?_)) <;> simp (maxSteps := 2000000) only [go_sem, seval, reduceCtorEq, gg, f1, w_byteN]) | (refine finR (by simp only [go_sem, seval, reduceCtorEq, f1, w_byteN]; exact rfl) ?_; simp only [go_sem, seval, reduceCtorEq, f1, w_byteN]) | refine updL hM ?_ (by omega) | (with_reducible exact fun _ _ => rfl))
    all_goals (first | omega | (simp only [decide_eq_true_eq, decide_eq_false_iff_not] at *; omega) | (simp only [List.length_append, List.length_cons, List.length_nil] <;> omega) | exact one_bv _ | exact one_sv _ | skip)
    all_goals rfl
theorem RText_sp (s : List UInt8) (hs : s.length ≤ 4611686018427387904) : Rt 118 [.flat (.string (bs s))] (.flat (.string (bs (textB s)))) := by
  have hb := numB_length s.length (by omega)
  intro M mn
  refine fnL (C := kc 8 [] []) (rs := [.tmp 2]) envOk Tryd.func118 (by kernel_rfl) rfl rfl rfl rfl rfl rfl (Low.flat _) ?_
  intro E hG hM
  repeat' (first | (with_reducible first | refine pa ?_ | refine pb ?_ | refine pc ?_ | refine nxt_n ?_ | refine nxt_e ?_ | refine nxt_r ?_ | refine blk_n ?_ | refine blk_r ?_ | refine blk_hit ?_ | refine blk_miss (by rfl) ?_ | refine pd ?_ | refine pe ?_ | refine pf ?_ | refine pg ?_ | apply And.intro) | (refine hK _ ?_; clear hK K hΘ Θ) | (with_reducible first | refine cw1 ?_ | refine cw2 ?_ | exact cw3 | exact cw4) | ((with_reducible first | refine cw5 (fun gg => ?_) | refine cw6 (fun gg => ?_) | refine cw7 (fun gg => ?_)); try simp only [gg]) | refine cs1 hG rfl ?_ ?_ | refine cs2 hG rfl ?_ ?_ | ((first | refine kg (RNum_sp _ (by omega) _ _) rfl hΘ ?_ | refine rga hG (by kernel_rfl) (fun Θ K hΘ hK => ?_) | refine rgb hG (by kernel_rfl) (fun Θ K hΘ hK => ?_)); simp (maxSteps := 2000000) only [go_sem, seval, reduceCtorEq]) | ((first | refine Post.splitN (fun gg => ?_) (fun gg => ?_) | refine Post.split (fun gg => ?_) (fun gg => ?_)) <;> simp (maxSteps := 2000000) only [go_sem, seval, reduceCtorEq, gg]) | (refine finR (by simp only [go_sem, seval, reduceCtorEq]; exact rfl) ?_; simp only [go_sem, seval, reduceCtorEq]) | refine updL hM ?_ (by omega) | (with_reducible exact fun _ _ => rfl))
  all_goals (first | omega | (simp only [decide_eq_true_eq, decide_eq_false_iff_not] at *; omega) | (simp only [List.length_append, List.length_cons, List.length_nil] <;> omega) | exact one_bv _ | exact one_sv _ | skip)
  all_goals rfl
theorem RList_sp (l : List (List UInt8)) (hs : total l ≤ 1000000000) (hl : l.length ≤ 1000000) : Rt 91 [.sl false 1 l.length (sv l)] (.flat (.string (bs (listB l)))) := by
  have hn := numB_length l.length (by omega)
  intro M mn
  refine fnL (C := kc 21 [] []) (rs := [.tmp 2]) envOk Tryd.func91 (by kernel_rfl) rfl rfl rfl rfl rfl rfl (Low.flat _) ?_
  intro E hG hM
  repeat' (first | (with_reducible first | refine pa ?_ | refine pb ?_ | refine pc ?_ | refine nxt_n ?_ | refine nxt_e ?_ | refine nxt_r ?_ | refine blk_n ?_ | refine blk_r ?_ | refine blk_hit ?_ | refine blk_miss (by rfl) ?_ | refine pd ?_ | refine pe ?_ | refine pf ?_ | refine pg ?_ | apply And.intro) | (refine hK _ ?_; clear hK K hΘ Θ) | (with_reducible first | refine cw1 ?_ | refine cw2 ?_ | exact cw3 | exact cw4) | ((with_reducible first | refine cw5 (fun gg => ?_) | refine cw6 (fun gg => ?_) | refine cw7 (fun gg => ?_)); try simp only [gg]) | refine cs1 hG rfl ?_ ?_ | refine cs2 hG rfl ?_ ?_ | ((first | refine kg (RNum_sp _ (by omega) _ _) rfl hΘ ?_ | refine rga hG (by kernel_rfl) (fun Θ K hΘ hK => ?_) | refine rgb hG (by kernel_rfl) (fun Θ K hΘ hK => ?_)); simp (maxSteps := 2000000) only [go_sem, seval, reduceCtorEq]) | ((first | refine Post.splitN (fun gg => ?_) (fun gg => ?_) | refine Post.split (fun gg => ?_) (fun gg => ?_)) <;> simp (maxSteps := 2000000) only [go_sem, seval, reduceCtorEq, gg]) | (refine finR (by simp only [go_sem, seval, reduceCtorEq]; exact rfl) ?_; simp only [go_sem, seval, reduceCtorEq]) | refine updL hM ?_ (by omega) | (with_reducible exact fun _ _ => rfl))
  all_goals (first | omega | (simp only [decide_eq_true_eq, decide_eq_false_iff_not] at *; omega) | (simp only [List.length_append, List.length_cons, List.length_nil] <;> omega) | exact one_bv _ | exact one_sv _ | skip)
  refine WC.loopA (fun q : Nat × List UInt8 => ⟨[(11, .flat (.int .i64 q.1)), (10, .flat (.int .i64 l.length)), (9, .sl false 1 l.length (sv l)), (3, .flat (.string (bs q.2)))], M, mn⟩) (fun q => l.length - q.1) (fun q => q.1 ≤ l.length ∧ q.2 = numB l.length ++ listTail (l.take q.1)) (0, numB l.length) ⟨by simp, by simp [listTail]⟩ (sbs (by simp (maxSteps := 2000000) only [go_sem, seval, reduceCtorEq, List.append_eq]) rfl rfl) ?_
  rintro ⟨i, b⟩ ⟨hi, hb⟩
  simp only at hi hb ⊢
  by_cases h : i < l.length
  · have f1 : ((i : Int) < (l.length : Int)) = True := eq_true (by omega)
    have g1 : (i < l.length) = True := eq_true h
    have hmem : l.getD i [] ∈ l := by
      rw [List.getD_eq_getElem?_getD, List.getElem?_eq_getElem h]; exact List.getElem_mem _
    have hsz := mem_total hmem
    have hnl := numB_length (l.getD i []).length (by omega)
    have htl := listTail_length (l.take i) (by have := total_take l i; omega)
    have htt := total_take l i
    have hll : (l.take i).length ≤ l.length := by simp; omega
    have htn : b.length ≤ 2000000000 := by rw [hb, List.length_append]; omega
    have hxt : (textB (l.getD i [])).length ≤ 2000000000 := by rw [textB, List.length_append]; omega
    have v1 := wi1 (n := i) (by omega)
    repeat' (first | (with_reducible first | refine pa ?_ | refine pb ?_ | refine pc ?_ | refine nxt_n ?_ | refine nxt_e ?_ | refine nxt_r ?_ | refine blk_n ?_ | refine blk_r ?_ | refine blk_hit ?_ | refine blk_miss (by rfl) ?_ | refine pd ?_ | refine pe ?_ | refine pf ?_ | refine pg ?_ | apply And.intro) | (refine hK _ ?_; clear hK K hΘ Θ) | (with_reducible first | refine cw1 ?_ | refine cw2 ?_ | exact cw3 | exact cw4) | ((with_reducible first | refine cw5 (fun gg => ?_) | refine cw6 (fun gg => ?_) | refine cw7 (fun gg => ?_)); try simp only [gg]) | refine cs1 hG rfl ?_ ?_ | refine cs2 hG rfl ?_ ?_ | ((first | refine kg (RText_sp _ (by omega) _ _) rfl hΘ ?_ | refine rga hG (by kernel_rfl) (fun Θ K hΘ hK => ?_) | refine rgb hG (by kernel_rfl) (fun Θ K hΘ hK => ?_)); simp (maxSteps := 2000000) only [go_sem, seval, reduceCtorEq, f1, g1, v1]) | ((first | refine Post.splitN (fun gg => ?_) (fun gg => ?_) | refine Post.split (fun gg => ?_) (fun gg => ?_)) <;> simp (maxSteps := 2000000) only [go_sem, seval, reduceCtorEq, gg, f1, g1, v1]) | (refine finR (by simp only [go_sem, seval, reduceCtorEq, f1, g1, v1]; exact rfl) ?_; simp only [go_sem, seval, reduceCtorEq, f1, g1, v1]) | refine updL hM ?_ (by omega) | (with_reducible exact fun _ _ => rfl))
    all_goals (first | omega | (simp only [decide_eq_true_eq, decide_eq_false_iff_not] at *; omega) | (simp only [List.length_append, List.length_cons, List.length_nil] <;> omega) | exact one_bv _ | exact one_sv _ | skip)
    refine ⟨(i + 1, b ++ textB (l.getD i [])), ⟨by simp only; omega, ?_⟩, by simp only; omega, (sbs (by simp (maxSteps := 2000000) only [go_sem, seval, reduceCtorEq, List.append_eq]) rfl rfl)⟩
    simp only
    rw [hb, take_succ' h, listTail_append, listTail_one]; simp
  · have f1 : ((i : Int) < (l.length : Int)) = False := eq_false (by omega)
    rw [List.take_of_length_le (by omega)] at hb
    repeat' (first | (with_reducible first | refine pa ?_ | refine pb ?_ | refine pc ?_ | refine nxt_n ?_ | refine nxt_e ?_ | refine nxt_r ?_ | refine blk_n ?_ | refine blk_r ?_ | refine blk_hit ?_ | refine blk_miss (by rfl) ?_ | refine pd ?_ | refine pe ?_ | refine pf ?_ | refine pg ?_ | apply And.intro) | (refine hK _ ?_; clear hK K hΘ Θ) | (with_reducible first | refine cw1 ?_ | refine cw2 ?_ | exact cw3 | exact cw4) | ((with_reducible first | refine cw5 (fun gg => ?_) | refine cw6 (fun gg => ?_) | refine cw7 (fun gg => ?_)); try simp only [gg]) | refine cs1 hG rfl ?_ ?_ | refine cs2 hG rfl ?_ ?_ | ((first | refine rga hG (by kernel_rfl) (fun Θ K hΘ hK => ?_) | refine rgb hG (by kernel_rfl) (fun Θ K hΘ hK => ?_)); simp (maxSteps := 2000000) only [go_sem, seval, reduceCtorEq, f1]) | ((first | refine Post.splitN (fun gg => ?_) (fun gg => ?_) | refine Post.split (fun gg => ?_) (fun gg => ?_)) <;> simp (maxSteps := 2000000) only [go_sem, seval, reduceCtorEq, gg, f1]) | (refine finR (by simp only [go_sem, seval, reduceCtorEq, f1]; exact rfl) ?_; simp only [go_sem, seval, reduceCtorEq, f1]) | refine updL hM ?_ (by omega) | (with_reducible exact fun _ _ => rfl))
    all_goals (first | omega | (simp only [decide_eq_true_eq, decide_eq_false_iff_not] at *; omega) | (simp only [List.length_append, List.length_cons, List.length_nil] <;> omega) | exact one_bv _ | exact one_sv _ | skip)
    all_goals (rw [hb]; rfl)
end Go.VL

set_option linter.unusedVariables false
set_option linter.unusedSimpArgs false
set_option maxRecDepth 100000
set_option maxHeartbeats 8000000
open Go.RowKit
namespace Go.VL
open Go.Proofs
end Go.VL

set_option linter.unusedVariables false
set_option linter.unusedSimpArgs false
set_option maxRecDepth 100000
set_option maxHeartbeats 8000000
open Go.RowKit
namespace Go.VL
open Go.Proofs
end Go.VL

set_option linter.unusedVariables false
set_option linter.unusedSimpArgs false
set_option maxRecDepth 100000
set_option maxHeartbeats 8000000
open Go.RowKit
namespace Go.VL
open Go.Proofs
def fillB (l : List UInt8) (n i : Nat) : List UInt8 := l.take i ++ List.replicate (n - i) 0
end Go.VL

set_option linter.unusedVariables false
set_option linter.unusedSimpArgs false
set_option maxRecDepth 100000
set_option maxHeartbeats 8000000
open Go.RowKit
namespace Go.VL
open Go.Proofs
theorem RNumI_sp (n : Int) (h0 : 0 ≤ n) (hn : n < 9223372036854775808) : Rt 67 [.flat (.int .i64 n)] (.flat (.string (bs (numB n.toNat)))) := by
  have := RNum_sp n.toNat (by omega)
  rwa [show ((n.toNat : Nat) : Int) = n by omega] at this
end Go.VL

set_option linter.unusedVariables false
set_option linter.unusedSimpArgs false
set_option maxRecDepth 100000
set_option maxHeartbeats 8000000
open Go.RowKit
namespace Go.VL
open Go.Proofs
theorem R16num_sp (n : Int) (hn : n < 9223372036854775808) : Rt 92 [.flat (.int .i64 n)] (.flat (.string (bs (numB n.toNat)))) := by
  by_cases h : n < 0
  · have f1 := eq_true h
    have e : n.toNat = 0 := by omega
    have hR := RNum_sp 0 (by omega)
    rw [e]
    intro M mn
    refine fnL (C := kc 7 [] []) (rs := [.tmp 2]) envOk Tryd.func92 (by kernel_rfl) rfl rfl rfl rfl rfl rfl (Low.flat _) ?_
    intro E hG hM
    repeat' (first | (with_reducible first | refine pa ?_ | refine pb ?_ | refine pc ?_ | refine nxt_n ?_ | refine nxt_e ?_ | refine nxt_r ?_ | refine blk_n ?_ | refine blk_r ?_ | refine blk_hit ?_ | refine blk_miss (by rfl) ?_ | refine pd ?_ | refine pe ?_ | refine pf ?_ | refine pg ?_ | apply And.intro) | (refine hK _ ?_; clear hK K hΘ Θ) | (with_reducible first | refine cw1 ?_ | refine cw2 ?_ | exact cw3 | exact cw4) | ((with_reducible first | refine cw5 (fun gg => ?_) | refine cw6 (fun gg => ?_) | refine cw7 (fun gg => ?_)); try simp only [gg]) | refine cs1 hG rfl ?_ ?_ | refine cs2 hG rfl ?_ ?_ | ((first | refine kg (hR _ _) rfl hΘ ?_ | refine rga hG (by kernel_rfl) (fun Θ K hΘ hK => ?_) | refine rgb hG (by kernel_rfl) (fun Θ K hΘ hK => ?_)); simp (maxSteps := 2000000) only [go_sem, seval, reduceCtorEq, f1]) | ((first | refine Post.splitN (fun gg => ?_) (fun gg => ?_) | refine Post.split (fun gg => ?_) (fun gg => ?_)) <;> simp (maxSteps := 2000000) only [go_sem, seval, reduceCtorEq, gg, f1]) | (refine finR (by simp only [go_sem, seval, reduceCtorEq, f1]; exact rfl) ?_; simp only [go_sem, seval, reduceCtorEq, f1]) | refine updL hM ?_ (by omega) | (with_reducible exact fun _ _ => rfl))
    all_goals (first | omega | (simp only [decide_eq_true_eq, decide_eq_false_iff_not] at *; omega) | (simp only [List.length_append, List.length_cons, List.length_nil] <;> omega) | exact one_bv _ | exact one_sv _ | skip)
  · have f1 := eq_false h
    intro M mn
    refine fnL (C := kc 7 [] []) (rs := [.tmp 2]) envOk Tryd.func92 (by kernel_rfl) rfl rfl rfl rfl rfl rfl (Low.flat _) ?_
    intro E hG hM
    repeat' (first | (with_reducible first | refine pa ?_ | refine pb ?_ | refine pc ?_ | refine nxt_n ?_ | refine nxt_e ?_ | refine nxt_r ?_ | refine blk_n ?_ | refine blk_r ?_ | refine blk_hit ?_ | refine blk_miss (by rfl) ?_ | refine pd ?_ | refine pe ?_ | refine pf ?_ | refine pg ?_ | apply And.intro) | (refine hK _ ?_; clear hK K hΘ Θ) | (with_reducible first | refine cw1 ?_ | refine cw2 ?_ | exact cw3 | exact cw4) | ((with_reducible first | refine cw5 (fun gg => ?_) | refine cw6 (fun gg => ?_) | refine cw7 (fun gg => ?_)); try simp only [gg]) | refine cs1 hG rfl ?_ ?_ | refine cs2 hG rfl ?_ ?_ | ((first | refine kg (RNumI_sp n (by omega) hn _ _) rfl hΘ ?_ | refine rga hG (by kernel_rfl) (fun Θ K hΘ hK => ?_) | refine rgb hG (by kernel_rfl) (fun Θ K hΘ hK => ?_)); simp (maxSteps := 2000000) only [go_sem, seval, reduceCtorEq, f1]) | ((first | refine Post.splitN (fun gg => ?_) (fun gg => ?_) | refine Post.split (fun gg => ?_) (fun gg => ?_)) <;> simp (maxSteps := 2000000) only [go_sem, seval, reduceCtorEq, gg, f1]) | (refine finR (by simp only [go_sem, seval, reduceCtorEq, f1]; exact rfl) ?_; simp only [go_sem, seval, reduceCtorEq, f1]) | refine updL hM ?_ (by omega) | (with_reducible exact fun _ _ => rfl))
    all_goals (first | omega | (simp only [decide_eq_true_eq, decide_eq_false_iff_not] at *; omega) | (simp only [List.length_append, List.length_cons, List.length_nil] <;> omega) | exact one_bv _ | exact one_sv _ | skip)
end Go.VL

set_option linter.unusedVariables false
set_option linter.unusedSimpArgs false
set_option maxRecDepth 100000
set_option maxHeartbeats 8000000
open Go.RowKit
namespace Go.VL
open Go.Proofs
def hashL (l : List Ent) : List Id32 := z32 :: walkL z32 1 l
def lgC (node : Int) (kb : Nat) (l : List Ent) : List V := [.flat (.int .i64 node), .bp kb 0, .sl true 73 l.length (Ent.lC l), .sl true 32 (l.length + 1) (idsC (hashL l))]
theorem hashL_len (l : List Ent) : (hashL l).length = l.length + 1 := by simp [hashL, walkL_len]
theorem hashL_get (l : List Ent) (i : Nat) (hi : i ≤ l.length) : (hashL l).getD i z32 = lastL z32 1 (l.take i) := by
  induction i with
  | zero => simp [hashL, lastL_nil]
  | succ i ih =>
    rw [lastL_take l z32 1 i ent0 (by omega)]
    unfold hashL
    rw [List.getD_cons_succ]
    have h1 := walkL_take l z32 1 i ent0 (by omega)
    have h2 : (walkL z32 1 l) = walkL z32 1 (l.take (i + 1)) ++ walkL (lastL z32 1 (l.take (i + 1))) (1 + ((l.take (i + 1)).length : Int)) (l.drop (i + 1)) := by
      rw [← walkL_app, List.take_append_drop]
    rw [h2, h1, List.getD_eq_getElem?_getD, List.getElem?_append_left (by simp [walkL_len]; omega), List.getElem?_append_right (by rw [walkL_len, List.length_take]; exact Nat.min_le_left _ _)]
    simp [walkL_len, Nat.min_eq_left (show i ≤ l.length by omega)]
theorem ids_get (l : List Id32) (i : Nat) (hi : i < l.length) : ((idsC l).drop (i * 32)).take 32 = bv (l.getD i z32).1 := by
  unfold idsC
  rw [flat_chunk 32 _ i (fun c hc => by obtain ⟨x, _, rfl⟩ := List.mem_map.1 hc; rw [bv_length]; exact x.2) (by simpa using hi)]
  simp [List.getD_eq_getElem?_getD, hi]
theorem hashL_app (l es : List Ent) : idsC (hashL l) ++ idsC (walkL (lastL z32 1 l) (l.length + 1) es) = idsC (hashL (l ++ es)) := by
  unfold hashL
  rw [walkL_app, show (1 : Int) + (l.length : Int) = (l.length : Int) + 1 by omega]
  simp [idsC]
theorem Ent.lone (l : List Ent) : (∀ z ∈ Ent.lC l, oneB z = true) = True := eq_true fun z hz => by
  obtain ⟨c, hc, hz⟩ := List.mem_flatten.1 hz
  obtain ⟨e, _, rfl⟩ := List.mem_map.1 hc
  exact of_eq_true (Ent.one e) z hz
theorem ids_one (l : List Id32) : (∀ z ∈ idsC l, oneB z = true) = True := eq_true fun z hz => by
  obtain ⟨c, hc, hz⟩ := List.mem_flatten.1 hz
  obtain ⟨e, _, rfl⟩ := List.mem_map.1 hc
  exact one_bv _ z hz
theorem ent_app (l es : List Ent) : Ent.lC l ++ Ent.lC es = Ent.lC (l ++ es) := by simp [Ent.lC]
theorem badA_sp (e : Ent) (he : e.ok) : Rt 81 [.agg e.c] (.flat (.bool (!e.good))) := by
  intro M mn
  refine fnL (C := kc 6 [] []) (rs := [.tmp 2]) envOk Tryd.func81 (by kernel_rfl) rfl rfl rfl rfl rfl rfl (Low.flat _) ?_
  intro E hG hM
  repeat' (first | (with_reducible first | refine pa ?_ | refine pb ?_ | refine pc ?_ | refine nxt_n ?_ | refine nxt_e ?_ | refine nxt_r ?_ | refine blk_n ?_ | refine blk_r ?_ | refine blk_hit ?_ | refine blk_miss (by rfl) ?_ | refine pd ?_ | refine pe ?_ | refine pf ?_ | refine pg ?_ | apply And.intro) | (refine hK _ ?_; clear hK K hΘ Θ) | (with_reducible first | refine cw1 ?_ | refine cw2 ?_ | exact cw3 | exact cw4) | ((with_reducible first | refine cw5 (fun gg => ?_) | refine cw6 (fun gg => ?_) | refine cw7 (fun gg => ?_)); try simp only [gg]) | refine cs1 hG rfl ?_ ?_ | refine cs2 hG rfl ?_ ?_ | ((first | refine kg (EGood_sp e he _ _) rfl hΘ ?_ | refine rga hG (by kernel_rfl) (fun Θ K hΘ hK => ?_) | refine rgb hG (by kernel_rfl) (fun Θ K hΘ hK => ?_)); simp (maxSteps := 2000000) only [go_sem, seval, reduceCtorEq]) | ((first | refine Post.splitN (fun gg => ?_) (fun gg => ?_) | refine Post.split (fun gg => ?_) (fun gg => ?_)) <;> simp (maxSteps := 2000000) only [go_sem, seval, reduceCtorEq, gg]) | (refine finR (by simp only [go_sem, seval, reduceCtorEq]; exact rfl) ?_; simp only [go_sem, seval, reduceCtorEq]) | refine updL hM ?_ (by omega) | (with_reducible exact fun _ _ => rfl))
  all_goals (first | omega | (simp only [decide_eq_true_eq, decide_eq_false_iff_not] at *; omega) | (simp only [List.length_append, List.length_cons, List.length_nil] <;> omega) | exact one_bv _ | exact one_sv _ | skip)
theorem LNew_sp (node : Int) (h0 : 0 ≤ node) (h5 : node < 5) (kb : Nat) (s : List UInt8) (h : Nat) (M : Mem) (mn : Nat) (hk : M kb = some (kyV s h).c) (hM : ∀ k, mn ≤ k → M k = none) :
    Sp Tryd.prog GL 45 [.flat (.int .i64 node), .bp kb 0] M mn (fun r m k => r = .tup [.bp (mn + 1) 0, .flat (.int .i64 0)] ∧ m = upd M (mn + 1) (some (lgC node kb [])) ∧ k = mn + 1 + 1) := by
  have f1 : (node < 0) = False := eq_false (by omega)
  have f2 : (node ≥ 5) = False := eq_false (by omega)
  have tz := take_bv32 z32
  have base : Sp Tryd.prog GL 45 [.flat (.int .i64 node), .bp kb 0] M mn (fun r m k => r = .tup [.bp (mn + 1) 0, .flat (.int .i64 0)] ∧ m = upd (upd M mn (some (bv z32.1))) (mn + 1) (some [.flat (.int .i64 node), .bp kb 0, .nil, .bs mn 0 1 1]) ∧ k = mn + 1 + 1) := by
    refine fnP (C := kc 22 [] [19]) (rs := [.tmp 4, .tmp 5]) envOk Tryd.func45 (by kernel_rfl) rfl rfl rfl rfl rfl rfl ?_
    intro E hG hM
    repeat' (first | (with_reducible first | refine pa ?_ | refine pb ?_ | refine pc ?_ | refine nxt_n ?_ | refine nxt_e ?_ | refine nxt_r ?_ | refine blk_n ?_ | refine blk_r ?_ | refine blk_hit ?_ | refine blk_miss (by rfl) ?_ | refine pd ?_ | refine pe ?_ | refine pf ?_ | refine pg ?_ | apply And.intro) | (refine hK _ ?_; clear hK K hΘ Θ) | (with_reducible first | refine cw1 ?_ | refine cw2 ?_ | exact cw3 | exact cw4) | ((with_reducible first | refine cw5 (fun gg => ?_) | refine cw6 (fun gg => ?_) | refine cw7 (fun gg => ?_)); try simp only [gg]) | refine cs1 hG rfl ?_ ?_ | refine cs2 hG rfl ?_ ?_ | ((first | refine rga hG (by kernel_rfl) (fun Θ K hΘ hK => ?_) | refine rgb hG (by kernel_rfl) (fun Θ K hΘ hK => ?_)); simp (maxSteps := 2000000) only [go_sem, seval, reduceCtorEq, f1, f2, tz]) | ((first | refine Post.splitN (fun gg => ?_) (fun gg => ?_) | refine Post.split (fun gg => ?_) (fun gg => ?_)) <;> simp (maxSteps := 2000000) only [go_sem, seval, reduceCtorEq, gg, f1, f2, tz]) | (refine finR (by simp only [go_sem, seval, reduceCtorEq, f1, f2, tz]; exact rfl) ?_; simp only [go_sem, seval, reduceCtorEq, f1, f2, tz]) | refine updL hM ?_ (by omega) | (with_reducible exact fun _ _ => rfl))
    all_goals (first | omega | (simp only [decide_eq_true_eq, decide_eq_false_iff_not] at *; omega) | (simp only [List.length_append, List.length_cons, List.length_nil] <;> omega) | exact one_bv _ | exact one_sv _ | skip)
  refine Sp.ghost base (fun r m k hR => ?_)
  obtain ⟨rfl, rfl, rfl⟩ := hR
  refine ⟨_, ⟨rfl, rfl, rfl⟩, fun {E g ob st tm w} hst hmn => ?_⟩
  obtain ⟨g', e1, h1⟩ := hst.cellFull (b := mn + 1) (off := 3) (hb := mn) (n := 1) (sz := 32) (cs := bv z32.1) (l := [.flat (.int .i64 node), .bp kb 0, .nil, .bs mn 0 1 1]) (upd_same _ _ _) (by simp) rfl (by rw [upd_ne _ _ (by omega), upd_same]) (by omega) (by rw [bv_length, z32.2]) (by unfold maxLen; omega)
  have h2 := h1.cellNil (b := mn + 1) (off := 2) 73 (upd_same _ _ _) (by simp [putV]) rfl
  refine ⟨g', e1, ?_⟩
  have e : upd (upd (upd (upd (upd M mn (some (bv z32.1))) (mn + 1) (some [.flat (.int .i64 node), .bp kb 0, .nil, .bs mn 0 1 1])) mn none) (mn + 1) (some (putV [.flat (.int .i64 node), .bp kb 0, .nil, .bs mn 0 1 1] 3 [.sl true 32 1 (bv z32.1)]))) (mn + 1) (some (putV (putV [.flat (.int .i64 node), .bp kb 0, .nil, .bs mn 0 1 1] 3 [.sl true 32 1 (bv z32.1)]) 2 [.sl true 73 0 []])) = upd M (mn + 1) (some (lgC node kb [])) := by
    funext b
    by_cases q1 : b = mn + 1
    · subst q1
      rw [upd_same, upd_same]; rfl
    · rw [upd_ne _ _ q1, upd_ne _ _ q1, upd_ne _ _ q1]
      by_cases q2 : b = mn
      · subst q2; rw [upd_same, hM b (Nat.le_refl _)]
      · rw [upd_ne _ _ q2, upd_ne _ _ q1, upd_ne _ _ q2]
  rw [e] at h2
  exact h2
theorem LLen_sp (node : Int) (kb b : Nat) (l : List Ent) (M : Mem) (mn : Nat) (hb : M b = some (lgC node kb l)) : Sp Tryd.prog GL 41 [.bp b 0] M mn (fun r m k => r = .flat (.int .i64 l.length) ∧ m = M ∧ k = mn) := by
  unfold lgC at hb
  refine fnP (C := kc 10 [] []) (rs := [.tmp 2]) envOk Tryd.func41 (by kernel_rfl) rfl rfl rfl rfl rfl rfl ?_
  intro E hG hM
  repeat' (first | (with_reducible first | refine pa ?_ | refine pb ?_ | refine pc ?_ | refine nxt_n ?_ | refine nxt_e ?_ | refine nxt_r ?_ | refine blk_n ?_ | refine blk_r ?_ | refine blk_hit ?_ | refine blk_miss (by rfl) ?_ | refine pd ?_ | refine pe ?_ | refine pf ?_ | refine pg ?_ | apply And.intro) | (refine hK _ ?_; clear hK K hΘ Θ) | (with_reducible first | refine cw1 ?_ | refine cw2 ?_ | exact cw3 | exact cw4) | ((with_reducible first | refine cw5 (fun gg => ?_) | refine cw6 (fun gg => ?_) | refine cw7 (fun gg => ?_)); try simp only [gg]) | refine cs1 hG rfl ?_ ?_ | refine cs2 hG rfl ?_ ?_ | ((first | refine rga hG (by kernel_rfl) (fun Θ K hΘ hK => ?_) | refine rgb hG (by kernel_rfl) (fun Θ K hΘ hK => ?_)); simp (maxSteps := 2000000) only [go_sem, seval, reduceCtorEq, hb]) | ((first | refine Post.splitN (fun gg => ?_) (fun gg => ?_) | refine Post.split (fun gg => ?_) (fun gg => ?_)) <;> simp (maxSteps := 2000000) only [go_sem, seval, reduceCtorEq, gg, hb]) | (refine finR (by simp only [go_sem, seval, reduceCtorEq, hb]; exact rfl) ?_; simp only [go_sem, seval, reduceCtorEq, hb]) | refine updL hM ?_ (by omega) | (with_reducible exact fun _ _ => rfl))
  all_goals (first | omega | (simp only [decide_eq_true_eq, decide_eq_false_iff_not] at *; omega) | (simp only [List.length_append, List.length_cons, List.length_nil] <;> omega) | exact one_bv _ | exact one_sv _ | skip)
theorem LLeft_sp (node : Int) (kb b : Nat) (s : List UInt8) (h : Nat) (h8 : h ≤ 8) (l : List Ent) (hl : l.length ≤ 2 ^ h) (M : Mem) (mn : Nat) (hk : M kb = some (kyV s h).c) (hb : M b = some (lgC node kb l)) : Sp Tryd.prog GL 42 [.bp b 0] M mn (fun r m k => r = .flat (.int .i64 (2 ^ h - l.length : Nat)) ∧ m = M ∧ k = mn) := by
  unfold lgC at hb
  have hp := pow_le8 h h8
  have v1 : IntKind.i64.wrap (((2 ^ h : Nat) : Int) - (l.length : Int)) = ((2 ^ h - l.length : Nat) : Int) := by rw [wi (by omega) (by omega)]; omega
  refine fnP (C := kc 16 [] []) (rs := [.tmp 2]) envOk Tryd.func42 (by kernel_rfl) rfl rfl rfl rfl rfl rfl ?_
  intro E hG hM
  have hlt := box_lt hM hb
  have hlk := box_lt hM hk
  repeat' (first | (with_reducible first | refine pa ?_ | refine pb ?_ | refine pc ?_ | refine nxt_n ?_ | refine nxt_e ?_ | refine nxt_r ?_ | refine blk_n ?_ | refine blk_r ?_ | refine blk_hit ?_ | refine blk_miss (by rfl) ?_ | refine pd ?_ | refine pe ?_ | refine pf ?_ | refine pg ?_ | apply And.intro) | (refine hK _ ?_; first | clear hK K hn0 hcl hΘ Θ | clear hK K hΘ Θ) | (with_reducible first | refine cw1 ?_ | refine cw2 ?_ | exact cw3 | exact cw4) | ((with_reducible first | refine cw5 (fun gg => ?_) | refine cw6 (fun gg => ?_) | refine cw7 (fun gg => ?_)); try simp only [gg]) | refine cs1 hG rfl ?_ ?_ | refine cs2 hG rfl ?_ ?_ | ((first | refine kr ([kb]) (fun M n hA => Count_sp kb s h h8 M n ((hA kb (by simp)).trans hk)) (by first | exact .inl rfl | (refine .inr ⟨rfl, ?_⟩; rw [hn0]; first | (simp; done) | (simp; omega))) rfl (clW_le (by rfl)) hΘ hcl hn0 ?_ | refine rga hG (by kernel_rfl) (fun Θ K hΘ hK => ?_) | refine rgb hG (by kernel_rfl) (fun Θ K hΘ hK => ?_) | refine rgc (clW [(4, 4), (8, 8)] defCl) hG (by kernel_rfl) (clW_le (by rfl)) (by rfl) (by kernel_rfl) (fun Θ K hΘ hcl hn0 hK => ?_) | refine rgd (clW [(4, 4), (8, 8)] defCl) hG (by kernel_rfl) (clW_le (by rfl)) (by rfl) (by kernel_rfl) (fun Θ K hΘ hcl hn0 hK => ?_)); simp (maxSteps := 2000000) only [go_sem, seval, reduceCtorEq, hb, v1]) | ((first | refine Post.splitN (fun gg => ?_) (fun gg => ?_) | refine PostB.splitN (fun gg => ?_) (fun gg => ?_) | refine Post.split (fun gg => ?_) (fun gg => ?_) | refine PostB.split (fun gg => ?_) (fun gg => ?_)) <;> simp (maxSteps := 2000000) only [go_sem, seval, reduceCtorEq, gg, hb, v1]) | (refine finR (by simp only [go_sem, seval, reduceCtorEq, hb, v1]; exact rfl) ?_; simp only [go_sem, seval, reduceCtorEq, hb, v1]) | refine updL hM ?_ (by omega) | (with_reducible exact fun _ _ => rfl))
  all_goals (first | omega | (simp only [decide_eq_true_eq, decide_eq_false_iff_not] at *; omega) | (simp only [List.length_append, List.length_cons, List.length_nil] <;> omega) | exact one_bv _ | exact one_sv _ | skip)
theorem LAppend_sp (node : Int) (kb b : Nat) (s : List UInt8) (h : Nat) (h8 : h ≤ 8) (l es : List Ent) (hok : ∀ e ∈ es, e.ok) (hg : ∀ e ∈ es, e.good = true) (hn : l.length + es.length ≤ 2 ^ h) (M : Mem) (mn : Nat) (hk : M kb = some (kyV s h).c) (hb : M b = some (lgC node kb l)) (hbm : b < mn) :
    Sp Tryd.prog GL 40 [.bp b 0, .sl false 73 es.length (Ent.lC es)] M mn (fun r m k => r = .flat (.int .i64 0) ∧ m = upd M b (some (lgC node kb (l ++ es))) ∧ k = mn) := by
  have hp := pow_le8 h h8
  have hbl := hb
  unfold lgC at hb
  have cC := ContE_sp 81 (fun e => !e.good) badA_sp es hok (by omega)
  have hany : es.any (fun e => !e.good) = false := by
    rw [List.any_eq_false]
    intro e he
    rw [hg e he]; simp
  rw [hany] at cC
  have g1 : ((es.length : Int) > ((2 ^ h - l.length : Nat) : Int)) = False := eq_false (by omega)
  have g2 : (l.length < l.length + 1) = True := eq_true (by omega)
  have hlen := ids_len (hashL l)
  rw [hashL_len] at hlen
  have hget := ids_get (hashL l) l.length (by rw [hashL_len]; omega)
  rw [hashL_get l l.length (Nat.le_refl _), List.take_length] at hget
  have g3 : (l.length * 32 + 32 ≤ (l.length + 1) * 32) = True := eq_true (by omega)
  have v1 := wi1 (n := l.length) (by omega)
  have hll := Ent.l_len l
  have hle := Ent.l_len es
  have hW := CWalk_sp (lastL z32 1 l) (l.length + 1 : Nat) es hok (by omega) (by unfold inR; omega) (by omega)
  have hwl := ids_len (walkL (lastL z32 1 l) (l.length + 1 : Nat) es)
  rw [walkL_len] at hwl
  have hA1 := hashL_app l es
  have hA2 := ent_app l es
  rw [show ((l.length : Int) + 1) = ((l.length + 1 : Nat) : Int) by omega] at hA1
  have hlg : lgC node kb (l ++ es) = [.flat (.int .i64 node), .bp kb 0, .sl true 73 (l ++ es).length (Ent.lC (l ++ es)), .sl true 32 ((l ++ es).length + 1) (idsC (hashL (l ++ es)))] := rfl
  have o1 := Ent.lone es
  have o2 := ids_one (walkL (lastL z32 1 l) (l.length + 1 : Nat) es)
  have e1 : l.length + 1 + es.length = (l ++ es).length + 1 := by rw [List.length_append]; omega
  have e2 : l.length + es.length = (l ++ es).length := by rw [List.length_append]
  refine fnP (C := kc 53 [21, 41, 48, 50] []) (rs := [.tmp 4]) envOk Tryd.func40 (by kernel_rfl) rfl rfl rfl rfl rfl rfl ?_
  intro E hG hM
  repeat' (first | (with_reducible first | refine pa ?_ | refine pb ?_ | refine pc ?_ | refine nxt_n ?_ | refine nxt_e ?_ | refine nxt_r ?_ | refine blk_n ?_ | refine blk_r ?_ | refine blk_hit ?_ | refine blk_miss (by rfl) ?_ | refine pd ?_ | refine pe ?_ | refine pf ?_ | refine pg ?_ | apply And.intro) | (refine hK _ ?_; first | clear hK K hn0 hcl hΘ Θ | clear hK K hΘ Θ) | (with_reducible first | refine cw1 ?_ | refine cw2 ?_ | exact cw3 | exact cw4) | ((with_reducible first | refine cw5 (fun gg => ?_) | refine cw6 (fun gg => ?_) | refine cw7 (fun gg => ?_)); try simp only [gg]) | refine cs1 hG rfl ?_ ?_ | refine cs2 hG rfl ?_ ?_ | ((fail_if_success (with_reducible first | show WC _ _ _ (.region 7 _ _) _ _ | show WC _ _ _ (.seq (.region 7 _ _) _) _ _)); (first | refine kg (cC _ _) rfl hΘ ?_ | refine kg (LLeft_sp node kb b s h h8 l (by omega) _ _ hk hbl) rfl hΘ ?_ | refine rga hG (by kernel_rfl) (fun Θ K hΘ hK => ?_) | refine rgb hG (by kernel_rfl) (fun Θ K hΘ hK => ?_) | refine rgc defCl hG (by kernel_rfl) cl0 (by rfl) (by kernel_rfl) (fun Θ K hΘ hcl hn0 hK => ?_) | refine rgd defCl hG (by kernel_rfl) cl0 (by rfl) (by kernel_rfl) (fun Θ K hΘ hcl hn0 hK => ?_)); simp (maxSteps := 2000000) only [go_sem, seval, reduceCtorEq, List.append_eq, hb, g1]) | ((first | refine Post.splitN (fun gg => ?_) (fun gg => ?_) | refine PostB.splitN (fun gg => ?_) (fun gg => ?_) | refine Post.split (fun gg => ?_) (fun gg => ?_) | refine PostB.split (fun gg => ?_) (fun gg => ?_)) <;> simp (maxSteps := 2000000) only [go_sem, seval, reduceCtorEq, List.append_eq, gg, hb, g1]) | (refine finR (by simp only [go_sem, seval, reduceCtorEq, List.append_eq, hb, g1]; exact rfl) ?_; simp only [go_sem, seval, reduceCtorEq, List.append_eq, hb, g1]) | refine updL hM ?_ (by omega) | (with_reducible exact fun _ _ => rfl))
  all_goals (first | omega | (simp only [decide_eq_true_eq, decide_eq_false_iff_not] at *; omega) | (simp only [List.length_append, List.length_cons, List.length_nil] <;> omega) | exact one_bv _ | exact one_sv _ | skip)
  repeat' (first | (with_reducible first | refine pa ?_ | refine pb ?_ | refine pc ?_ | refine nxt_n ?_ | refine nxt_e ?_ | refine nxt_r ?_ | refine blk_n ?_ | refine blk_r ?_ | refine blk_hit ?_ | refine blk_miss (by rfl) ?_ | refine pd ?_ | refine pe ?_ | refine pf ?_ | refine pg ?_ | apply And.intro) | (refine hK _ ?_; first | clear hK K hn0 hcl hΘ Θ | clear hK K hΘ Θ) | (with_reducible first | refine cw1 ?_ | refine cw2 ?_ | exact cw3 | exact cw4) | ((with_reducible first | refine cw5 (fun gg => ?_) | refine cw6 (fun gg => ?_) | refine cw7 (fun gg => ?_)); try simp only [gg]) | refine cs1 hG rfl ?_ ?_ | refine cs2 hG rfl ?_ ?_ | ((first | refine kf (fun M n => hW M n) rfl (by decide) (clW_le (by rfl)) hΘ hcl hn0 ?_ | refine rga hG (by kernel_rfl) (fun Θ K hΘ hK => ?_) | refine rgb hG (by kernel_rfl) (fun Θ K hΘ hK => ?_) | refine rgc (clW [(4, 7), (8, 8), (12, 8), (15, 0), (19, 8)] defCl) hG (by kernel_rfl) (clW_le (by rfl)) (by rfl) (by kernel_rfl) (fun Θ K hΘ hcl hn0 hK => ?_) | refine rgd (clW [(4, 7), (8, 8), (12, 8), (15, 0), (19, 8)] defCl) hG (by kernel_rfl) (clW_le (by rfl)) (by rfl) (by kernel_rfl) (fun Θ K hΘ hcl hn0 hK => ?_)); simp (maxSteps := 2000000) only [go_sem, seval, reduceCtorEq, List.append_eq, hb, g2, hlen, hget, g3, v1, hll, hle, hwl, hA1, hA2, e1, e2, hlg, o1, o2]) | ((first | refine Post.splitN (fun gg => ?_) (fun gg => ?_) | refine PostB.splitN (fun gg => ?_) (fun gg => ?_) | refine Post.split (fun gg => ?_) (fun gg => ?_) | refine PostB.split (fun gg => ?_) (fun gg => ?_)) <;> simp (maxSteps := 2000000) only [go_sem, seval, reduceCtorEq, List.append_eq, gg, hb, g2, hlen, hget, g3, v1, hll, hle, hwl, hA1, hA2, e1, e2, hlg, o1, o2]) | (refine finR (by simp only [go_sem, seval, reduceCtorEq, List.append_eq, hb, g2, hlen, hget, g3, v1, hll, hle, hwl, hA1, hA2, e1, e2, hlg, o1, o2]; exact rfl) ?_; simp only [go_sem, seval, reduceCtorEq, List.append_eq, hb, g2, hlen, hget, g3, v1, hll, hle, hwl, hA1, hA2, e1, e2, hlg, o1, o2]) | refine updL hM ?_ (by omega) | (with_reducible exact fun _ _ => rfl))
  all_goals (first | omega | (simp only [decide_eq_true_eq, decide_eq_false_iff_not] at *; omega) | (simp only [List.length_append, List.length_cons, List.length_nil] <;> omega) | exact one_bv _ | exact one_sv _ | skip)
theorem auT3 (a : Au) (v : Value) : Low (.tup [.agg a.c, .flat v]) := lowTup (lowC1 (lowAgg (Au.flat a)) (lowC1 (Low.flat _) lowC0))
theorem idT3 (x : Id32) (v : Value) : Low (.tup [.agg (bv x.1), .flat v]) := lowTup (lowC1 (lowAgg (FlatS.bv _)) (lowC1 (Low.flat _) lowC0))
theorem LHash_none (node : Int) (kb b : Nat) (l : List Ent) (q : Int) (hq : (l.length : Int) < q) (M : Mem) (mn : Nat) (hb : M b = some (lgC node kb l)) : Sp Tryd.prog GL 44 [.bp b 0, .flat (.int .i64 q)] M mn (fun r m k => r = .tup [.agg (bv z32.1), .flat (.int .i64 5)] ∧ m = M ∧ k = mn) := by
  unfold lgC at hb
  have f1 : (q < 0) = False := eq_false (by omega)
  have f2 : (q > (l.length : Int)) = True := eq_true (by omega)
  have tz := take_bv32 z32
  refine fnL (C := kc 30 [] []) (rs := [.cell 4 52, .tmp 5]) envOk Tryd.func44 (by kernel_rfl) rfl rfl rfl rfl rfl rfl (idT3 _ _) ?_
  intro E hG hM
  have hlt := box_lt hM hb
  have u1 : ∀ z, upd M mn z b = M b := fun z => upd_ne _ _ (by omega)
  repeat' (first | (with_reducible first | refine pa ?_ | refine pb ?_ | refine pc ?_ | refine nxt_n ?_ | refine nxt_e ?_ | refine nxt_r ?_ | refine blk_n ?_ | refine blk_r ?_ | refine blk_hit ?_ | refine blk_miss (by rfl) ?_ | refine pd ?_ | refine pe ?_ | refine pf ?_ | refine pg ?_ | apply And.intro) | (refine hK _ ?_; clear hK K hΘ Θ) | (with_reducible first | refine cw1 ?_ | refine cw2 ?_ | exact cw3 | exact cw4) | ((with_reducible first | refine cw5 (fun gg => ?_) | refine cw6 (fun gg => ?_) | refine cw7 (fun gg => ?_)); try simp only [gg]) | refine cs1 hG rfl ?_ ?_ | refine cs2 hG rfl ?_ ?_ | ((first | refine rga hG (by kernel_rfl) (fun Θ K hΘ hK => ?_) | refine rgb hG (by kernel_rfl) (fun Θ K hΘ hK => ?_)); simp (maxSteps := 2000000) only [go_sem, seval, reduceCtorEq, f1, f2, hb, u1, tz]) | ((first | refine Post.splitN (fun gg => ?_) (fun gg => ?_) | refine Post.split (fun gg => ?_) (fun gg => ?_)) <;> simp (maxSteps := 2000000) only [go_sem, seval, reduceCtorEq, gg, f1, f2, hb, u1, tz]) | (refine finR (by simp only [go_sem, seval, reduceCtorEq, f1, f2, hb, u1, tz]; exact rfl) ?_; simp only [go_sem, seval, reduceCtorEq, f1, f2, hb, u1, tz]) | refine updL hM ?_ (by omega) | (with_reducible exact fun _ _ => rfl))
  all_goals (first | omega | (simp only [decide_eq_true_eq, decide_eq_false_iff_not] at *; omega) | (simp only [List.length_append, List.length_cons, List.length_nil] <;> omega) | exact one_bv _ | exact one_sv _ | skip)
theorem LAuth_none (node : Int) (kb b : Nat) (l : List Ent) (q : Int) (hq : (l.length : Int) < q) (M : Mem) (mn : Nat) (hb : M b = some (lgC node kb l)) : Sp Tryd.prog GL 39 [.bp b 0, .flat (.int .i64 q)] M mn (fun r m k => r = .tup [.agg au0.c, .flat (.int .i64 5)] ∧ m = M ∧ k = mn) := by
  refine fnL (C := kc 50 [] []) (rs := [.cell 4 64, .tmp 5]) envOk Tryd.func39 (by kernel_rfl) rfl rfl rfl rfl rfl rfl (auT3 _ _) ?_
  intro E hG hM
  have hlt := box_lt hM hb
  have u5 : ∀ (m : Mem) x, upd m (mn + 1) x mn = m mn := fun m x => upd_ne _ _ (by omega)
  have cH := LHash_none node kb b l q hq (upd M mn (some au0.c)) (mn + 1) (by rw [upd_ne _ _ (show b ≠ mn by omega)]; exact hb)
  repeat' (first | (with_reducible first | refine pa ?_ | refine pb ?_ | refine pc ?_ | refine nxt_n ?_ | refine nxt_e ?_ | refine nxt_r ?_ | refine blk_n ?_ | refine blk_r ?_ | refine blk_hit ?_ | refine blk_miss (by rfl) ?_ | refine pd ?_ | refine pe ?_ | refine pf ?_ | refine pg ?_ | apply And.intro) | (refine hK _ ?_; first | clear hK K hn0 hcl hΘ Θ | clear hK K hΘ Θ) | (with_reducible first | refine cw1 ?_ | refine cw2 ?_ | exact cw3 | exact cw4) | ((with_reducible first | refine cw5 (fun gg => ?_) | refine cw6 (fun gg => ?_) | refine cw7 (fun gg => ?_)); try simp only [gg]) | refine cs1 hG rfl ?_ ?_ | refine cs2 hG rfl ?_ ?_ | ((first | refine kg (cH) rfl hΘ ?_ | refine rga hG (by kernel_rfl) (fun Θ K hΘ hK => ?_) | refine rgb hG (by kernel_rfl) (fun Θ K hΘ hK => ?_) | refine rgc defCl hG (by kernel_rfl) cl0 (by rfl) (by kernel_rfl) (fun Θ K hΘ hcl hn0 hK => ?_) | refine rgd defCl hG (by kernel_rfl) cl0 (by rfl) (by kernel_rfl) (fun Θ K hΘ hcl hn0 hK => ?_)); simp (maxSteps := 2000000) only [go_sem, seval, reduceCtorEq, u5]) | ((first | refine Post.splitN (fun gg => ?_) (fun gg => ?_) | refine PostB.splitN (fun gg => ?_) (fun gg => ?_) | refine Post.split (fun gg => ?_) (fun gg => ?_) | refine PostB.split (fun gg => ?_) (fun gg => ?_)) <;> simp (maxSteps := 2000000) only [go_sem, seval, reduceCtorEq, gg, u5]) | (refine finR (by simp only [go_sem, seval, reduceCtorEq, u5]; exact rfl) ?_; simp only [go_sem, seval, reduceCtorEq, u5]) | refine updL hM ?_ (by omega) | (with_reducible exact fun _ _ => rfl))
  all_goals (first | omega | (simp only [decide_eq_true_eq, decide_eq_false_iff_not] at *; omega) | (simp only [List.length_append, List.length_cons, List.length_nil] <;> omega) | exact one_bv _ | exact one_sv _ | skip)
theorem entO_good1 : (entO 1 []).good = true := by
  rw [Ent.good3 rfl]
  simp [Ent.out, entO, ent0]
theorem alive16_sp : Rt 28 [] (.flat (.bool true)) := by
  have hE : ({ kind := 3, d := ent0.d, from_ := ent0.from_, seq := ent0.seq, prev := ent0.prev, mask := 1, pay := ent0.pay, sig := ent0.sig } : Ent) = entO 1 [] := rfl
  have ok1 : (entO 1 []).ok := entO_ok (by unfold inR; omega) (by simp)
  have k2 : ((2 ^ 1 - ([] : List Ent).length : Nat) : Int) = 2 := rfl
  have k3 : ([] ++ [entO 1 []] : List Ent) = [entO 1 []] := rfl
  intro M mn
  refine fnL (C := kc 44 [] []) (rs := [.tmp 0]) envOk Tryd.func28 (by kernel_rfl) rfl rfl rfl rfl rfl rfl (Low.flat _) ?_
  intro E hG hM
  have hMk : ∀ z k, mn + 1 ≤ k → upd M mn z k = none := fun z k hk => by rw [upd_ne _ _ (by omega)]; exact hM k (by omega)
  have cN := New_sp [115, 101, 101, 100] 1 (by simp) (by decide) (by decide)
  have cL := LNew_sp 0 (by omega) (by omega) mn [115, 101, 101, 100] 1 (upd M mn (some (kyV [115, 101, 101, 100] 1).c)) (mn + 1) (upd_same _ _ _) (hMk _)
  have u1 : ∀ (A : Mem) x y z, upd (upd (upd A mn x) (mn + 1 + 1) y) (mn + 1 + 1 + 1) z mn = x := fun A x y z => by rw [upd_ne _ _ (by omega), upd_ne _ _ (by omega), upd_same]
  have u2 : ∀ (A : Mem) x y z, upd (upd (upd A mn x) (mn + 1 + 1) y) (mn + 1 + 1 + 1) z (mn + 1 + 1) = y := fun A x y z => by rw [upd_ne _ _ (by omega), upd_same]
  repeat' (first | (with_reducible first | refine pa ?_ | refine pb ?_ | refine pc ?_ | refine nxt_n ?_ | refine nxt_e ?_ | refine nxt_r ?_ | refine blk_n ?_ | refine blk_r ?_ | refine blk_hit ?_ | refine blk_miss (by rfl) ?_ | refine pd ?_ | refine pe ?_ | refine pf ?_ | refine pg ?_ | apply And.intro) | (refine hK _ ?_; clear hK K hΘ Θ) | (with_reducible first | refine cw1 ?_ | refine cw2 ?_ | exact cw3 | exact cw4) | ((with_reducible first | refine cw5 (fun gg => ?_) | refine cw6 (fun gg => ?_) | refine cw7 (fun gg => ?_)); try simp only [gg]) | refine cs1 hG rfl ?_ ?_ | refine cs2 hG rfl ?_ ?_ | ((fail_if_success (with_reducible first | show WC _ _ _ (.region 2 _ _) _ _ | show WC _ _ _ (.seq (.region 2 _ _) _) _ _)); (first | refine kg (cN _ _) rfl hΘ ?_ | refine rga hG (by kernel_rfl) (fun Θ K hΘ hK => ?_) | refine rgb hG (by kernel_rfl) (fun Θ K hΘ hK => ?_)); simp (maxSteps := 2000000) only [go_sem, seval, reduceCtorEq]) | ((first | refine Post.splitN (fun gg => ?_) (fun gg => ?_) | refine Post.split (fun gg => ?_) (fun gg => ?_)) <;> simp (maxSteps := 2000000) only [go_sem, seval, reduceCtorEq, gg]) | (refine finR (by simp only [go_sem, seval, reduceCtorEq]; exact rfl) ?_; simp only [go_sem, seval, reduceCtorEq]) | refine updL hM ?_ (by omega) | (with_reducible exact fun _ _ => rfl))
  all_goals (first | omega | (simp only [decide_eq_true_eq, decide_eq_false_iff_not] at *; omega) | (simp only [List.length_append, List.length_cons, List.length_nil] <;> omega) | exact one_bv _ | exact one_sv _ | skip)
  repeat' (first | (with_reducible first | refine pa ?_ | refine pb ?_ | refine pc ?_ | refine nxt_n ?_ | refine nxt_e ?_ | refine nxt_r ?_ | refine blk_n ?_ | refine blk_r ?_ | refine blk_hit ?_ | refine blk_miss (by rfl) ?_ | refine pd ?_ | refine pe ?_ | refine pf ?_ | refine pg ?_ | apply And.intro) | (refine hK _ ?_; clear hK K hΘ Θ) | (with_reducible first | refine cw1 ?_ | refine cw2 ?_ | exact cw3 | exact cw4) | ((with_reducible first | refine cw5 (fun gg => ?_) | refine cw6 (fun gg => ?_) | refine cw7 (fun gg => ?_)); try simp only [gg]) | refine cs1 hG rfl ?_ ?_ | refine cs2 hG rfl ?_ ?_ | ((fail_if_success (with_reducible first | show WC _ _ _ (.region 3 _ _) _ _ | show WC _ _ _ (.seq (.region 3 _ _) _) _ _)); (first | refine kg (cL) rfl hΘ ?_ | refine rga hG (by kernel_rfl) (fun Θ K hΘ hK => ?_) | refine rgb hG (by kernel_rfl) (fun Θ K hΘ hK => ?_)); simp (maxSteps := 2000000) only [go_sem, seval, reduceCtorEq]) | ((first | refine Post.splitN (fun gg => ?_) (fun gg => ?_) | refine Post.split (fun gg => ?_) (fun gg => ?_)) <;> simp (maxSteps := 2000000) only [go_sem, seval, reduceCtorEq, gg]) | (refine finR (by simp only [go_sem, seval, reduceCtorEq]; exact rfl) ?_; simp only [go_sem, seval, reduceCtorEq]) | refine updL hM ?_ (by omega) | (with_reducible exact fun _ _ => rfl))
  all_goals (first | omega | (simp only [decide_eq_true_eq, decide_eq_false_iff_not] at *; omega) | (simp only [List.length_append, List.length_cons, List.length_nil] <;> omega) | exact one_bv _ | exact one_sv _ | skip)
  repeat' (first | (with_reducible first | refine pa ?_ | refine pb ?_ | refine pc ?_ | refine nxt_n ?_ | refine nxt_e ?_ | refine nxt_r ?_ | refine blk_n ?_ | refine blk_r ?_ | refine blk_hit ?_ | refine blk_miss (by rfl) ?_ | refine pd ?_ | refine pe ?_ | refine pf ?_ | refine pg ?_ | apply And.intro) | (refine hK _ ?_; clear hK K hΘ Θ) | (with_reducible first | refine cw1 ?_ | refine cw2 ?_ | exact cw3 | exact cw4) | ((with_reducible first | refine cw5 (fun gg => ?_) | refine cw6 (fun gg => ?_) | refine cw7 (fun gg => ?_)); try simp only [gg]) | refine cs1 hG rfl ?_ ?_ | refine cs2 hG rfl ?_ ?_ | ((fail_if_success (with_reducible first | show WC _ _ _ (.region 4 _ _) _ _ | show WC _ _ _ (.seq (.region 4 _ _) _) _ _)); (first | refine kg (LAuth_none 0 mn (mn + 1 + 1) [] 1 (by simp) _ _ (upd_same _ _ _)) rfl hΘ ?_ | refine rga hG (by kernel_rfl) (fun Θ K hΘ hK => ?_) | refine rgb hG (by kernel_rfl) (fun Θ K hΘ hK => ?_)); simp (maxSteps := 2000000) only [go_sem, seval, reduceCtorEq]) | ((first | refine Post.splitN (fun gg => ?_) (fun gg => ?_) | refine Post.split (fun gg => ?_) (fun gg => ?_)) <;> simp (maxSteps := 2000000) only [go_sem, seval, reduceCtorEq, gg]) | (refine finR (by simp only [go_sem, seval, reduceCtorEq]; exact rfl) ?_; simp only [go_sem, seval, reduceCtorEq]) | refine updL hM ?_ (by omega) | (with_reducible exact fun _ _ => rfl))
  all_goals (first | omega | (simp only [decide_eq_true_eq, decide_eq_false_iff_not] at *; omega) | (simp only [List.length_append, List.length_cons, List.length_nil] <;> omega) | exact one_bv _ | exact one_sv _ | skip)
  obtain ⟨M4, hM4⟩ : ∃ m : Mem, m = upd (upd (upd M mn (some (kyV [115, 101, 101, 100] 1).c)) (mn + 1 + 1) (some (lgC 0 mn []))) (mn + 1 + 1 + 1) (some au0.c) := ⟨_, rfl⟩
  have hk : M4 mn = some (kyV [115, 101, 101, 100] 1).c := by rw [hM4]; exact u1 _ _ _ _
  have hb : M4 (mn + 1 + 1) = some (lgC 0 mn []) := by rw [hM4]; exact u2 _ _ _ _
  have hMb : ∀ b, M b ≠ none → upd M4 (mn + 1 + 1) (some (lgC 0 mn [entO 1 []])) b = M b := fun b hb2 => by
    have hlt : b < mn := Nat.lt_of_not_le fun k => hb2 (hM b k)
    rw [upd_ne _ _ (by omega), hM4, upd_ne _ _ (by omega), upd_ne _ _ (by omega), upd_ne _ _ (by omega)]
  rw [← hM4]
  have hEl : Ent.lC [entO 1 []] = (entO 1 []).c := by simp [Ent.lC]
  have hEl2 : (entO 1 []).c ++ [] = (entO 1 []).c := List.append_nil _
  have cF := LLeft_sp 0 mn (mn + 1 + 1) [115, 101, 101, 100] 1 (by omega) [] (by simp) M4 (mn + 1 + 1 + 1 + 1) hk hb
  rw [k2] at cF
  have cA := LAppend_sp 0 mn (mn + 1 + 1) [115, 101, 101, 100] 1 (by omega) [] [entO 1 []] (by simpa using ok1) (by simpa using entO_good1) (by simp) M4 (mn + 1 + 1 + 1 + 1) hk hb (by omega)
  rw [hEl, List.nil_append] at cA
  have cN2 := LLen_sp 0 mn (mn + 1 + 1) [entO 1 []] (upd M4 (mn + 1 + 1) (some (lgC 0 mn [entO 1 []]))) (mn + 1 + 1 + 1 + 1) (upd_same _ _ _)
  simp only [List.length_singleton] at cA cN2
  have hMb2 : ∀ b, M b ≠ none → M4 b = M b := fun b hb2 => by
    have hlt : b < mn := Nat.lt_of_not_le fun k => hb2 (hM b k)
    rw [hM4, upd_ne _ _ (by omega), upd_ne _ _ (by omega), upd_ne _ _ (by omega)]
  repeat' (first | (with_reducible first | refine pa ?_ | refine pb ?_ | refine pc ?_ | refine nxt_n ?_ | refine nxt_e ?_ | refine nxt_r ?_ | refine blk_n ?_ | refine blk_r ?_ | refine blk_hit ?_ | refine blk_miss (by rfl) ?_ | refine pd ?_ | refine pe ?_ | refine pf ?_ | refine pg ?_ | apply And.intro) | (refine hK _ ?_; clear hK K hΘ Θ) | (with_reducible first | refine cw1 ?_ | refine cw2 ?_ | exact cw3 | exact cw4) | ((with_reducible first | refine cw5 (fun gg => ?_) | refine cw6 (fun gg => ?_) | refine cw7 (fun gg => ?_)); try simp only [gg]) | refine cs1 hG rfl ?_ ?_ | refine cs2 hG rfl ?_ ?_ | ((first | refine kg (cF) rfl hΘ ?_ | refine kg (cA) rfl hΘ ?_ | refine kg (cN2) rfl hΘ ?_ | refine rga hG (by kernel_rfl) (fun Θ K hΘ hK => ?_) | refine rgb hG (by kernel_rfl) (fun Θ K hΘ hK => ?_)); simp (maxSteps := 2000000) only [go_sem, seval, reduceCtorEq, hE, hEl2, hMb]) | ((first | refine Post.splitN (fun gg => ?_) (fun gg => ?_) | refine Post.split (fun gg => ?_) (fun gg => ?_)) <;> simp (maxSteps := 2000000) only [go_sem, seval, reduceCtorEq, gg, hE, hEl2, hMb]) | (refine finR (by simp only [go_sem, seval, reduceCtorEq, hE, hEl2, hMb]; exact rfl) ?_; simp only [go_sem, seval, reduceCtorEq, hE, hEl2, hMb]) | refine updL hM ?_ (by omega) | (with_reducible exact fun _ _ => rfl))
  all_goals (first | omega | (simp only [decide_eq_true_eq, decide_eq_false_iff_not] at *; omega) | (simp only [List.length_append, List.length_cons, List.length_nil] <;> omega) | exact one_bv _ | exact one_sv _ | skip)
end Go.VL
