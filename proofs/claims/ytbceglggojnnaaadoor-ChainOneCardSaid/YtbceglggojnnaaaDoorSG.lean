/- Part SG of the proof: made for this claim. -/
import Derived.Test.YtbceglggojnnaaaDoorSF
import Derived.Test.YtbceglggojnnaaaDoorVLc
import Derived.Test.YtbceglggojnnaaaDoorRows
set_option linter.unusedVariables false
set_option linter.unusedSimpArgs false
set_option maxRecDepth 100000
set_option maxHeartbeats 8000000
open Go.RowKit
namespace Go.VL
open Go.Proofs
theorem walk_last (p : Id32) (q : Int) (l : List Ent) (c : Nat) (h0 : 0 < c) (hc : c ≤ l.length) : (walkL p q (l.take c)).getD (c - 1) z32 = lastL p q (l.take c) := by
  obtain ⟨i, rfl⟩ : ∃ i, c = i + 1 := ⟨c - 1, by omega⟩
  have h1 := walkL_take l p q i ent0 (by omega)
  have h2 := lastL_take l p q i ent0 (by omega)
  rw [h1, h2, List.getD_eq_getElem?_getD, List.getElem?_append_right (by rw [walkL_len, List.length_take]; omega)]
  simp [walkL_len, Nat.min_eq_left (show i ≤ l.length by omega)]
theorem ChainParts_sp (p : Id32) (q : Int) (hq : inR q) (l : List Ent) (hok : ∀ e ∈ l, e.ok) (hl : l.length ≤ 140737488351232) (cut : Int) (hc : inR cut) : Rt 9 [.agg (bv p.1), .flat (.int .i64 q), .sl false 73 l.length (Ent.lC l), .flat (.int .i64 cut)] (.flat (.bool true)) := by
  have cA := alive16_sp
  have hgr := great16_sp l hok hl
  cases hg : g16 l
  case true =>
    rw [hg] at hgr
    intro M mn
    refine fnL (C := kc 112 [] []) (rs := [.tmp 8]) envOk Tryd.func9 (by kernel_rfl) rfl rfl rfl rfl rfl rfl (Low.flat _) ?_
    intro E hG hM
    repeat' (first | (with_reducible first | refine pa ?_ | refine pb ?_ | refine pc ?_ | refine nxt_n ?_ | refine nxt_e ?_ | refine nxt_r ?_ | refine blk_n ?_ | refine blk_r ?_ | refine blk_hit ?_ | refine blk_miss (by rfl) ?_ | refine pd ?_ | refine pe ?_ | refine pf ?_ | refine pg ?_ | apply And.intro) | (refine hK _ ?_; first | clear hK K hn0 hcl hΘ Θ | clear hK K hΘ Θ) | (with_reducible first | refine cw1 ?_ | refine cw2 ?_ | exact cw3 | exact cw4) | ((with_reducible first | refine cw5 (fun gg => ?_) | refine cw6 (fun gg => ?_) | refine cw7 (fun gg => ?_)); try simp only [gg]) | refine cs1 hG rfl ?_ ?_ | refine cs2 hG rfl ?_ ?_ | ((first | refine kg (cA _ _) rfl hΘ ?_ | refine kg (hgr _ _) rfl hΘ ?_ | refine rga hG (by kernel_rfl) (fun Θ K hΘ hK => ?_) | refine rgb hG (by kernel_rfl) (fun Θ K hΘ hK => ?_) | refine rgc defCl hG (by kernel_rfl) cl0 (by rfl) (by kernel_rfl) (fun Θ K hΘ hcl hn0 hK => ?_) | refine rgd defCl hG (by kernel_rfl) cl0 (by rfl) (by kernel_rfl) (fun Θ K hΘ hcl hn0 hK => ?_)); simp (maxSteps := 2000000) only [go_sem, seval, reduceCtorEq, List.append_eq]) | ((first | refine Post.splitN (fun gg => ?_) (fun gg => ?_) | refine PostB.splitN (fun gg => ?_) (fun gg => ?_) | refine Post.split (fun gg => ?_) (fun gg => ?_) | refine PostB.split (fun gg => ?_) (fun gg => ?_)) <;> simp (maxSteps := 2000000) only [go_sem, seval, reduceCtorEq, List.append_eq, gg]) | (refine finR (by simp only [go_sem, seval, reduceCtorEq, List.append_eq]; exact rfl) ?_; simp only [go_sem, seval, reduceCtorEq, List.append_eq]) | refine updL hM ?_ (by omega) | (with_reducible exact fun _ _ => rfl))
    all_goals (first | omega | (simp only [decide_eq_true_eq, decide_eq_false_iff_not] at *; omega) | (simp only [List.length_append, List.length_cons, List.length_nil] <;> omega) | exact one_bv _ | exact one_sv _ | skip)
  obtain ⟨hz, hl12⟩ := (g16_iff l).1 hg
  rw [hg] at hgr
  by_cases h1 : q < 0
  · have f1 := eq_true h1
    intro M mn
    refine fnL (C := kc 112 [] []) (rs := [.tmp 8]) envOk Tryd.func9 (by kernel_rfl) rfl rfl rfl rfl rfl rfl (Low.flat _) ?_
    intro E hG hM
    repeat' (first | (with_reducible first | refine pa ?_ | refine pb ?_ | refine pc ?_ | refine nxt_n ?_ | refine nxt_e ?_ | refine nxt_r ?_ | refine blk_n ?_ | refine blk_r ?_ | refine blk_hit ?_ | refine blk_miss (by rfl) ?_ | refine pd ?_ | refine pe ?_ | refine pf ?_ | refine pg ?_ | apply And.intro) | (refine hK _ ?_; first | clear hK K hn0 hcl hΘ Θ | clear hK K hΘ Θ) | (with_reducible first | refine cw1 ?_ | refine cw2 ?_ | exact cw3 | exact cw4) | ((with_reducible first | refine cw5 (fun gg => ?_) | refine cw6 (fun gg => ?_) | refine cw7 (fun gg => ?_)); try simp only [gg]) | refine cs1 hG rfl ?_ ?_ | refine cs2 hG rfl ?_ ?_ | ((first | refine kg (cA _ _) rfl hΘ ?_ | refine kg (hgr _ _) rfl hΘ ?_ | refine rga hG (by kernel_rfl) (fun Θ K hΘ hK => ?_) | refine rgb hG (by kernel_rfl) (fun Θ K hΘ hK => ?_) | refine rgc defCl hG (by kernel_rfl) cl0 (by rfl) (by kernel_rfl) (fun Θ K hΘ hcl hn0 hK => ?_) | refine rgd defCl hG (by kernel_rfl) cl0 (by rfl) (by kernel_rfl) (fun Θ K hΘ hcl hn0 hK => ?_)); simp (maxSteps := 2000000) only [go_sem, seval, reduceCtorEq, List.append_eq, f1]) | ((first | refine Post.splitN (fun gg => ?_) (fun gg => ?_) | refine PostB.splitN (fun gg => ?_) (fun gg => ?_) | refine Post.split (fun gg => ?_) (fun gg => ?_) | refine PostB.split (fun gg => ?_) (fun gg => ?_)) <;> simp (maxSteps := 2000000) only [go_sem, seval, reduceCtorEq, List.append_eq, gg, f1]) | (refine finR (by simp only [go_sem, seval, reduceCtorEq, List.append_eq, f1]; exact rfl) ?_; simp only [go_sem, seval, reduceCtorEq, List.append_eq, f1]) | refine updL hM ?_ (by omega) | (with_reducible exact fun _ _ => rfl))
    all_goals (first | omega | (simp only [decide_eq_true_eq, decide_eq_false_iff_not] at *; omega) | (simp only [List.length_append, List.length_cons, List.length_nil] <;> omega) | exact one_bv _ | exact one_sv _ | skip)
  have f1 := eq_false h1
  by_cases h2 : q > 1152921504606846976
  · have f2 := eq_true h2
    intro M mn
    refine fnL (C := kc 112 [] []) (rs := [.tmp 8]) envOk Tryd.func9 (by kernel_rfl) rfl rfl rfl rfl rfl rfl (Low.flat _) ?_
    intro E hG hM
    repeat' (first | (with_reducible first | refine pa ?_ | refine pb ?_ | refine pc ?_ | refine nxt_n ?_ | refine nxt_e ?_ | refine nxt_r ?_ | refine blk_n ?_ | refine blk_r ?_ | refine blk_hit ?_ | refine blk_miss (by rfl) ?_ | refine pd ?_ | refine pe ?_ | refine pf ?_ | refine pg ?_ | apply And.intro) | (refine hK _ ?_; first | clear hK K hn0 hcl hΘ Θ | clear hK K hΘ Θ) | (with_reducible first | refine cw1 ?_ | refine cw2 ?_ | exact cw3 | exact cw4) | ((with_reducible first | refine cw5 (fun gg => ?_) | refine cw6 (fun gg => ?_) | refine cw7 (fun gg => ?_)); try simp only [gg]) | refine cs1 hG rfl ?_ ?_ | refine cs2 hG rfl ?_ ?_ | ((first | refine kg (cA _ _) rfl hΘ ?_ | refine kg (hgr _ _) rfl hΘ ?_ | refine rga hG (by kernel_rfl) (fun Θ K hΘ hK => ?_) | refine rgb hG (by kernel_rfl) (fun Θ K hΘ hK => ?_) | refine rgc defCl hG (by kernel_rfl) cl0 (by rfl) (by kernel_rfl) (fun Θ K hΘ hcl hn0 hK => ?_) | refine rgd defCl hG (by kernel_rfl) cl0 (by rfl) (by kernel_rfl) (fun Θ K hΘ hcl hn0 hK => ?_)); simp (maxSteps := 2000000) only [go_sem, seval, reduceCtorEq, List.append_eq, f1, f2]) | ((first | refine Post.splitN (fun gg => ?_) (fun gg => ?_) | refine PostB.splitN (fun gg => ?_) (fun gg => ?_) | refine Post.split (fun gg => ?_) (fun gg => ?_) | refine PostB.split (fun gg => ?_) (fun gg => ?_)) <;> simp (maxSteps := 2000000) only [go_sem, seval, reduceCtorEq, List.append_eq, gg, f1, f2]) | (refine finR (by simp only [go_sem, seval, reduceCtorEq, List.append_eq, f1, f2]; exact rfl) ?_; simp only [go_sem, seval, reduceCtorEq, List.append_eq, f1, f2]) | refine updL hM ?_ (by omega) | (with_reducible exact fun _ _ => rfl))
    all_goals (first | omega | (simp only [decide_eq_true_eq, decide_eq_false_iff_not] at *; omega) | (simp only [List.length_append, List.length_cons, List.length_nil] <;> omega) | exact one_bv _ | exact one_sv _ | skip)
  have f2 := eq_false h2
  by_cases h3 : cut < 0
  · have f3 := eq_true h3
    intro M mn
    refine fnL (C := kc 112 [] []) (rs := [.tmp 8]) envOk Tryd.func9 (by kernel_rfl) rfl rfl rfl rfl rfl rfl (Low.flat _) ?_
    intro E hG hM
    repeat' (first | (with_reducible first | refine pa ?_ | refine pb ?_ | refine pc ?_ | refine nxt_n ?_ | refine nxt_e ?_ | refine nxt_r ?_ | refine blk_n ?_ | refine blk_r ?_ | refine blk_hit ?_ | refine blk_miss (by rfl) ?_ | refine pd ?_ | refine pe ?_ | refine pf ?_ | refine pg ?_ | apply And.intro) | (refine hK _ ?_; first | clear hK K hn0 hcl hΘ Θ | clear hK K hΘ Θ) | (with_reducible first | refine cw1 ?_ | refine cw2 ?_ | exact cw3 | exact cw4) | ((with_reducible first | refine cw5 (fun gg => ?_) | refine cw6 (fun gg => ?_) | refine cw7 (fun gg => ?_)); try simp only [gg]) | refine cs1 hG rfl ?_ ?_ | refine cs2 hG rfl ?_ ?_ | ((first | refine kg (cA _ _) rfl hΘ ?_ | refine kg (hgr _ _) rfl hΘ ?_ | refine rga hG (by kernel_rfl) (fun Θ K hΘ hK => ?_) | refine rgb hG (by kernel_rfl) (fun Θ K hΘ hK => ?_) | refine rgc defCl hG (by kernel_rfl) cl0 (by rfl) (by kernel_rfl) (fun Θ K hΘ hcl hn0 hK => ?_) | refine rgd defCl hG (by kernel_rfl) cl0 (by rfl) (by kernel_rfl) (fun Θ K hΘ hcl hn0 hK => ?_)); simp (maxSteps := 2000000) only [go_sem, seval, reduceCtorEq, List.append_eq, f1, f2, f3]) | ((first | refine Post.splitN (fun gg => ?_) (fun gg => ?_) | refine PostB.splitN (fun gg => ?_) (fun gg => ?_) | refine Post.split (fun gg => ?_) (fun gg => ?_) | refine PostB.split (fun gg => ?_) (fun gg => ?_)) <;> simp (maxSteps := 2000000) only [go_sem, seval, reduceCtorEq, List.append_eq, gg, f1, f2, f3]) | (refine finR (by simp only [go_sem, seval, reduceCtorEq, List.append_eq, f1, f2, f3]; exact rfl) ?_; simp only [go_sem, seval, reduceCtorEq, List.append_eq, f1, f2, f3]) | refine updL hM ?_ (by omega) | (with_reducible exact fun _ _ => rfl))
    all_goals (first | omega | (simp only [decide_eq_true_eq, decide_eq_false_iff_not] at *; omega) | (simp only [List.length_append, List.length_cons, List.length_nil] <;> omega) | exact one_bv _ | exact one_sv _ | skip)
  have f3 := eq_false h3
  by_cases h4 : cut > (l.length : Int)
  · have f4 := eq_true h4
    intro M mn
    refine fnL (C := kc 112 [] []) (rs := [.tmp 8]) envOk Tryd.func9 (by kernel_rfl) rfl rfl rfl rfl rfl rfl (Low.flat _) ?_
    intro E hG hM
    repeat' (first | (with_reducible first | refine pa ?_ | refine pb ?_ | refine pc ?_ | refine nxt_n ?_ | refine nxt_e ?_ | refine nxt_r ?_ | refine blk_n ?_ | refine blk_r ?_ | refine blk_hit ?_ | refine blk_miss (by rfl) ?_ | refine pd ?_ | refine pe ?_ | refine pf ?_ | refine pg ?_ | apply And.intro) | (refine hK _ ?_; first | clear hK K hn0 hcl hΘ Θ | clear hK K hΘ Θ) | (with_reducible first | refine cw1 ?_ | refine cw2 ?_ | exact cw3 | exact cw4) | ((with_reducible first | refine cw5 (fun gg => ?_) | refine cw6 (fun gg => ?_) | refine cw7 (fun gg => ?_)); try simp only [gg]) | refine cs1 hG rfl ?_ ?_ | refine cs2 hG rfl ?_ ?_ | ((first | refine kg (cA _ _) rfl hΘ ?_ | refine kg (hgr _ _) rfl hΘ ?_ | refine rga hG (by kernel_rfl) (fun Θ K hΘ hK => ?_) | refine rgb hG (by kernel_rfl) (fun Θ K hΘ hK => ?_) | refine rgc defCl hG (by kernel_rfl) cl0 (by rfl) (by kernel_rfl) (fun Θ K hΘ hcl hn0 hK => ?_) | refine rgd defCl hG (by kernel_rfl) cl0 (by rfl) (by kernel_rfl) (fun Θ K hΘ hcl hn0 hK => ?_)); simp (maxSteps := 2000000) only [go_sem, seval, reduceCtorEq, List.append_eq, f1, f2, f3, f4]) | ((first | refine Post.splitN (fun gg => ?_) (fun gg => ?_) | refine PostB.splitN (fun gg => ?_) (fun gg => ?_) | refine Post.split (fun gg => ?_) (fun gg => ?_) | refine PostB.split (fun gg => ?_) (fun gg => ?_)) <;> simp (maxSteps := 2000000) only [go_sem, seval, reduceCtorEq, List.append_eq, gg, f1, f2, f3, f4]) | (refine finR (by simp only [go_sem, seval, reduceCtorEq, List.append_eq, f1, f2, f3, f4]; exact rfl) ?_; simp only [go_sem, seval, reduceCtorEq, List.append_eq, f1, f2, f3, f4]) | refine updL hM ?_ (by omega) | (with_reducible exact fun _ _ => rfl))
    all_goals (first | omega | (simp only [decide_eq_true_eq, decide_eq_false_iff_not] at *; omega) | (simp only [List.length_append, List.length_cons, List.length_nil] <;> omega) | exact one_bv _ | exact one_sv _ | skip)
  have f4 := eq_false h4
  obtain ⟨c, rfl⟩ : ∃ c : Nat, cut = c := ⟨cut.toNat, by omega⟩
  have hW1 := CWalk_sp p q l hok (by omega) hq (by omega)
  have tb := take_bv32 p
  have hW2 := CWalk_sp p q (l.take c) (fun e he => hok e (List.mem_of_mem_take he)) (by rw [List.length_take]; omega) hq (by omega)
  have hlc : (l.take c).length = c := by rw [List.length_take]; omega
  have hld : (l.drop c).length = l.length - c := List.length_drop
  have htk : (Ent.lC l).take (c * 73) = Ent.lC (l.take c) := by
    have h1 : Ent.lC l = Ent.lC (l.take c) ++ Ent.lC (l.drop c) := by rw [ent_app, List.take_append_drop]
    rw [h1, List.take_append_of_le_length (by rw [Ent.l_len, hlc]; exact Nat.le_refl _), List.take_of_length_le (by rw [Ent.l_len, hlc]; exact Nat.le_refl _)]
  have hdr : (Ent.lC l).drop (c * 73) = Ent.lC (l.drop c) := by
    have h1 : Ent.lC l = Ent.lC (l.take c) ++ Ent.lC (l.drop c) := by rw [ent_app, List.take_append_drop]
    rw [h1, List.drop_append, Ent.l_len, hlc, List.drop_of_length_le (by rw [Ent.l_len, hlc]; exact Nat.le_refl _)]
    simp
  rw [hlc] at hW2
  have hll := Ent.l_len l
  have hla : (Ent.lC l).take (l.length * 73) = Ent.lC l := List.take_of_length_le (by rw [hll]; exact Nat.le_refl _)
  have g1 : (c ≤ l.length) = True := eq_true (by omega)
  have hin : ∀ i, i < l.length → ((idsC (walkL p q l)).drop (i * 32)).take 32 = bv ((walkL p q l).getD i z32).1 := fun i hi => ids_get _ i (by rw [walkL_len]; exact hi)
  have hi1 : ∀ i, i < c → ((idsC (walkL p q (l.take c))).drop (i * 32)).take 32 = bv ((walkL p q (l.take c)).getD i z32).1 := fun i hi => ids_get _ i (by rw [walkL_len, hlc]; exact hi)
  have hi2 : ∀ i, i < l.length - c → ((idsC (walkL (lastL p q (l.take c)) (q + c) (l.drop c))).drop (i * 32)).take 32 = bv ((walkL (lastL p q (l.take c)) (q + c) (l.drop c)).getD i z32).1 := fun i hi => ids_get _ i (by rw [walkL_len, hld]; exact hi)
  have happ : walkL p q l = walkL p q (l.take c) ++ walkL (lastL p q (l.take c)) (q + c) (l.drop c) := by
    have := walkL_app (l.take c) (l.drop c) p q
    rw [List.take_append_drop, hlc] at this
    exact this
  have he1 : ∀ i, i < c → (walkL p q (l.take c)).getD i z32 = (walkL p q l).getD i z32 := fun i hi => by
    rw [happ, List.getD_eq_getElem?_getD, List.getD_eq_getElem?_getD, List.getElem?_append_left (by rw [walkL_len, hlc]; exact hi)]
  have he2 : ∀ i, c ≤ i → (walkL (lastL p q (l.take c)) (q + c) (l.drop c)).getD (i - c) z32 = (walkL p q l).getD i z32 := fun i hi => by
    rw [happ, List.getD_eq_getElem?_getD, List.getD_eq_getElem?_getD, List.getElem?_append_right (by rw [walkL_len, hlc]; exact hi), walkL_len, hlc]
  have hlw0 := ids_len (walkL p q l)
  have hlw1 := ids_len (walkL p q (l.take c))
  have hlw2 := ids_len (walkL (lastL p q (l.take c)) (q + c) (l.drop c))
  rw [walkL_len] at hlw0 hlw1 hlw2
  rw [hlc] at hlw1
  rw [hld] at hlw2
  have hW3 := CWalk_sp (lastL p q (l.take c)) (q + c) (l.drop c) (fun e he => hok e (List.mem_of_mem_drop he)) (by rw [hld]; omega) (by unfold inR; omega) (by omega)
  rw [hld] at hW3
  have v1 : IntKind.i64.wrap (q + (c : Int)) = q + (c : Int) := wi (by omega) (by omega)
  have v2 : IntKind.i64.wrap ((c : Int) + ((l.length - c : Nat) : Int)) = (l.length : Int) := by rw [wi (by omega) (by omega)]; omega
  have hlt := walk_last p q l c
  have tF := take_bv32 (lastL p q (l.take c))
  have c0 : (c - 0 : Nat) = c := Nat.sub_zero c
  intro M mn
  refine fnL (C := kc 112 [] []) (rs := [.tmp 8]) envOk Tryd.func9 (by kernel_rfl) rfl rfl rfl rfl rfl rfl (Low.flat _) ?_
  intro E hG hM
  repeat' (first | (with_reducible first | refine pa ?_ | refine pb ?_ | refine pc ?_ | refine nxt_n ?_ | refine nxt_e ?_ | refine nxt_r ?_ | refine blk_n ?_ | refine blk_r ?_ | refine blk_hit ?_ | refine blk_miss (by rfl) ?_ | refine pd ?_ | refine pe ?_ | refine pf ?_ | refine pg ?_ | apply And.intro) | (refine hK _ ?_; first | clear hK K hn0 hcl hΘ Θ | clear hK K hΘ Θ) | (with_reducible first | refine cw1 ?_ | refine cw2 ?_ | exact cw3 | exact cw4) | ((with_reducible first | refine cw5 (fun gg => ?_) | refine cw6 (fun gg => ?_) | refine cw7 (fun gg => ?_)); try simp only [gg]) | refine cs1 hG rfl ?_ ?_ | refine cs2 hG rfl ?_ ?_ | ((fail_if_success (with_reducible first | show WC _ _ _ (.region 5 _ _) _ _ | show WC _ _ _ (.seq (.region 5 _ _) _) _ _)); (first | refine kg (cA _ _) rfl hΘ ?_ | refine kg (hgr _ _) rfl hΘ ?_ | refine rga hG (by kernel_rfl) (fun Θ K hΘ hK => ?_) | refine rgb hG (by kernel_rfl) (fun Θ K hΘ hK => ?_) | refine rgc defCl hG (by kernel_rfl) cl0 (by rfl) (by kernel_rfl) (fun Θ K hΘ hcl hn0 hK => ?_) | refine rgd defCl hG (by kernel_rfl) cl0 (by rfl) (by kernel_rfl) (fun Θ K hΘ hcl hn0 hK => ?_)); simp (maxSteps := 2000000) only [go_sem, seval, reduceCtorEq, List.append_eq, f1, f2, f3, f4, tb]) | ((first | refine Post.splitN (fun gg => ?_) (fun gg => ?_) | refine PostB.splitN (fun gg => ?_) (fun gg => ?_) | refine Post.split (fun gg => ?_) (fun gg => ?_) | refine PostB.split (fun gg => ?_) (fun gg => ?_)) <;> simp (maxSteps := 2000000) only [go_sem, seval, reduceCtorEq, List.append_eq, gg, f1, f2, f3, f4, tb]) | (refine finR (by simp only [go_sem, seval, reduceCtorEq, List.append_eq, f1, f2, f3, f4, tb]; exact rfl) ?_; simp only [go_sem, seval, reduceCtorEq, List.append_eq, f1, f2, f3, f4, tb]) | refine updL hM ?_ (by omega) | (with_reducible exact fun _ _ => rfl))
  all_goals (first | omega | (simp only [decide_eq_true_eq, decide_eq_false_iff_not] at *; omega) | (simp only [List.length_append, List.length_cons, List.length_nil] <;> omega) | exact one_bv _ | exact one_sv _ | skip)
  repeat' (first | (with_reducible first | refine pa ?_ | refine pb ?_ | refine pc ?_ | refine nxt_n ?_ | refine nxt_e ?_ | refine nxt_r ?_ | refine blk_n ?_ | refine blk_r ?_ | refine blk_hit ?_ | refine blk_miss (by rfl) ?_ | refine pd ?_ | refine pe ?_ | refine pf ?_ | refine pg ?_ | apply And.intro) | (refine hK _ ?_; first | clear hK K hn0 hcl hΘ Θ | clear hK K hΘ Θ) | (with_reducible first | refine cw1 ?_ | refine cw2 ?_ | exact cw3 | exact cw4) | ((with_reducible first | refine cw5 (fun gg => ?_) | refine cw6 (fun gg => ?_) | refine cw7 (fun gg => ?_)); try simp only [gg]) | refine cs1 hG rfl ?_ ?_ | refine cs2 hG rfl ?_ ?_ | ((fail_if_success (with_reducible first | show WC _ _ _ (.region 6 _ _) _ _ | show WC _ _ _ (.seq (.region 6 _ _) _) _ _)); (first | refine kf (fun M n => hW1 M n) rfl (by decide) cl0 hΘ hcl hn0 ?_ | refine kf (fun M n => hW2 M n) rfl (by decide) cl0 hΘ hcl hn0 ?_ | refine rga hG (by kernel_rfl) (fun Θ K hΘ hK => ?_) | refine rgb hG (by kernel_rfl) (fun Θ K hΘ hK => ?_) | refine rgc defCl hG (by kernel_rfl) cl0 (by rfl) (by kernel_rfl) (fun Θ K hΘ hcl hn0 hK => ?_) | refine rgd defCl hG (by kernel_rfl) cl0 (by rfl) (by kernel_rfl) (fun Θ K hΘ hcl hn0 hK => ?_)); simp (maxSteps := 2000000) only [go_sem, seval, reduceCtorEq, List.append_eq, tb, htk, hll, g1]) | ((first | refine Post.splitN (fun gg => ?_) (fun gg => ?_) | refine PostB.splitN (fun gg => ?_) (fun gg => ?_) | refine Post.split (fun gg => ?_) (fun gg => ?_) | refine PostB.split (fun gg => ?_) (fun gg => ?_)) <;> simp (maxSteps := 2000000) only [go_sem, seval, reduceCtorEq, List.append_eq, gg, tb, htk, hll, g1]) | (refine finR (by simp only [go_sem, seval, reduceCtorEq, List.append_eq, tb, htk, hll, g1]; exact rfl) ?_; simp only [go_sem, seval, reduceCtorEq, List.append_eq, tb, htk, hll, g1]) | refine updL hM ?_ (by omega) | (with_reducible exact fun _ _ => rfl))
  all_goals (first | omega | (simp only [decide_eq_true_eq, decide_eq_false_iff_not] at *; omega) | (simp only [List.length_append, List.length_cons, List.length_nil] <;> omega) | exact one_bv _ | exact one_sv _ | skip)
  by_cases h9 : (c : Int) > 0
  · have f9 := eq_true h9
    have v0 : IntKind.i64.wrap ((c : Int) - 1) = ((c - 1 : Nat) : Int) := by rw [wi (by omega) (by omega)]; omega
    have g9 : (c - 1 < c) = True := eq_true (by omega)
    have g10 : ((c - 1) * 32 + 32 ≤ c * 32) = True := eq_true (by omega)
    have hlt' := hi1 (c - 1) (by omega)
    rw [walk_last p q l c (by omega) (by omega)] at hlt'
    repeat' (first | (with_reducible first | refine pa ?_ | refine pb ?_ | refine pc ?_ | refine nxt_n ?_ | refine nxt_e ?_ | refine nxt_r ?_ | refine blk_n ?_ | refine blk_r ?_ | refine blk_hit ?_ | refine blk_miss (by rfl) ?_ | refine pd ?_ | refine pe ?_ | refine pf ?_ | refine pg ?_ | apply And.intro) | (refine hK _ ?_; first | clear hK K hn0 hcl hΘ Θ | clear hK K hΘ Θ) | (with_reducible first | refine cw1 ?_ | refine cw2 ?_ | exact cw3 | exact cw4) | ((with_reducible first | refine cw5 (fun gg => ?_) | refine cw6 (fun gg => ?_) | refine cw7 (fun gg => ?_)); try simp only [gg]) | refine cs1 hG rfl ?_ ?_ | refine cs2 hG rfl ?_ ?_ | ((fail_if_success (with_reducible first | show WC _ _ _ (.region 11 _ _) _ _ | show WC _ _ _ (.seq (.region 11 _ _) _) _ _)); (first | refine kf (fun M n => hW3 M n) rfl (by decide) cl0 hΘ hcl hn0 ?_ | refine rga hG (by kernel_rfl) (fun Θ K hΘ hK => ?_) | refine rgb hG (by kernel_rfl) (fun Θ K hΘ hK => ?_) | refine rgc defCl hG (by kernel_rfl) cl0 (by rfl) (by kernel_rfl) (fun Θ K hΘ hcl hn0 hK => ?_) | refine rgd defCl hG (by kernel_rfl) cl0 (by rfl) (by kernel_rfl) (fun Θ K hΘ hcl hn0 hK => ?_)); simp (maxSteps := 2000000) only [go_sem, seval, reduceCtorEq, List.append_eq, tb, tF, hla, hdr, hll, g1, v1, c0, f9, v0, g9, g10, hlw1, hlt']) | ((first | refine Post.splitN (fun gg => ?_) (fun gg => ?_) | refine PostB.splitN (fun gg => ?_) (fun gg => ?_) | refine Post.split (fun gg => ?_) (fun gg => ?_) | refine PostB.split (fun gg => ?_) (fun gg => ?_)) <;> simp (maxSteps := 2000000) only [go_sem, seval, reduceCtorEq, List.append_eq, gg, tb, tF, hla, hdr, hll, g1, v1, c0, f9, v0, g9, g10, hlw1, hlt']) | (refine finR (by simp only [go_sem, seval, reduceCtorEq, List.append_eq, tb, tF, hla, hdr, hll, g1, v1, c0, f9, v0, g9, g10, hlw1, hlt']; exact rfl) ?_; simp only [go_sem, seval, reduceCtorEq, List.append_eq, tb, tF, hla, hdr, hll, g1, v1, c0, f9, v0, g9, g10, hlw1, hlt']) | refine updL hM ?_ (by omega) | (with_reducible exact fun _ _ => rfl))
    all_goals (first | omega | (simp only [decide_eq_true_eq, decide_eq_false_iff_not] at *; omega) | (simp only [List.length_append, List.length_cons, List.length_nil] <;> omega) | exact one_bv _ | exact one_sv _ | skip)
    obtain ⟨M4, hM4⟩ : ∃ m : Mem, m = upd (upd M mn (some (bv p.1))) (mn + 1) (some (bv (lastL p q (l.take c)).1)) := ⟨_, rfl⟩
    have hk4 : ∀ b, M b ≠ none → M4 b = M b := fun b hb2 => by
      have hlt : b < mn := Nat.lt_of_not_le fun k => hb2 (hM b k)
      rw [hM4, upd_ne _ _ (by omega), upd_ne _ _ (by omega)]
    rw [← hM4]
    refine WC.loopA (fun s' : Nat × Mem × Nat => ⟨[(65, .flat (.int .i64 s'.1)), (64, .flat (.int .i64 l.length)), (63, .sl false 32 l.length (idsC (walkL p q l))), (9, .sl false 32 l.length (idsC (walkL p q l))), (10, .sl false 32 c (idsC (walkL p q (l.take c)))), (12, .sl false 32 (l.length - c) (idsC (walkL (lastL p q (l.take c)) (q + c) (l.drop c)))), (3, .flat (.int .i64 c)), (2, .sl false 73 l.length (Ent.lC l))], s'.2.1, s'.2.2⟩) (fun s' => l.length - s'.1) (fun s' => s'.1 ≤ l.length ∧ (∀ b, M b ≠ none → s'.2.1 b = M b) ∧ mn + 1 + 1 ≤ s'.2.2) (0, M4, mn + 1 + 1) ⟨by simp only; omega, hk4, Nat.le_refl _⟩ (sbs (by simp (maxSteps := 2000000) only [go_sem, seval, reduceCtorEq, List.append_eq]) rfl rfl) ?_
    rintro ⟨i, μ, n⟩ ⟨hi, hk, hn⟩
    simp only at hi hk hn ⊢
    by_cases h : i < l.length
    · have f5 : ((i : Int) < (l.length : Int)) = True := eq_true (by omega)
      have g5 : (i < l.length) = True := eq_true h
      have v5 := wi1 (n := i) (by omega)
      have hgt := hin i h
      have g6 : (i * 32 + 32 ≤ l.length * 32) = True := eq_true (by omega)
      have tH := take_bv32 ((walkL p q l).getD i z32)
      have hkk : ∀ x, ∀ b, M b ≠ none → upd μ n x b = M b := fun x => updL hM hk (by omega)
      by_cases h7 : i < c
      · have f6 : ((i : Int) < (c : Int)) = True := eq_true (by omega)
        have f7 : ((i : Int) ≥ (c : Int)) = False := eq_false (by omega)
        have g7 : (i < c) = True := eq_true h7
        have hg1 := hi1 i h7
        rw [he1 i h7] at hg1
        have g8 : (i * 32 + 32 ≤ c * 32) = True := eq_true (by omega)
        repeat' (first | (with_reducible first | refine pa ?_ | refine pb ?_ | refine pc ?_ | refine nxt_n ?_ | refine nxt_e ?_ | refine nxt_r ?_ | refine blk_n ?_ | refine blk_r ?_ | refine blk_hit ?_ | refine blk_miss (by rfl) ?_ | refine pd ?_ | refine pe ?_ | refine pf ?_ | refine pg ?_ | apply And.intro) | (refine hK _ ?_; first | clear hK K hn0 hcl hΘ Θ | clear hK K hΘ Θ) | (with_reducible first | refine cw1 ?_ | refine cw2 ?_ | exact cw3 | exact cw4) | ((with_reducible first | refine cw5 (fun gg => ?_) | refine cw6 (fun gg => ?_) | refine cw7 (fun gg => ?_)); try simp only [gg]) | refine cs1 hG rfl ?_ ?_ | refine cs2 hG rfl ?_ ?_ | ((first | refine rga hG (by kernel_rfl) (fun Θ K hΘ hK => ?_) | refine rgb hG (by kernel_rfl) (fun Θ K hΘ hK => ?_) | refine rgc defCl hG (by kernel_rfl) cl0 (by rfl) (by kernel_rfl) (fun Θ K hΘ hcl hn0 hK => ?_) | refine rgd defCl hG (by kernel_rfl) cl0 (by rfl) (by kernel_rfl) (fun Θ K hΘ hcl hn0 hK => ?_)); simp (maxSteps := 2000000) only [go_sem, seval, reduceCtorEq, List.append_eq, f5, g5, v5, hgt, g6, tH, f6, f7, g7, hg1, g8, hlw0, hlw1]) | ((first | refine Post.splitN (fun gg => ?_) (fun gg => ?_) | refine PostB.splitN (fun gg => ?_) (fun gg => ?_) | refine Post.split (fun gg => ?_) (fun gg => ?_) | refine PostB.split (fun gg => ?_) (fun gg => ?_)) <;> simp (maxSteps := 2000000) only [go_sem, seval, reduceCtorEq, List.append_eq, gg, f5, g5, v5, hgt, g6, tH, f6, f7, g7, hg1, g8, hlw0, hlw1]) | (refine finR (by simp only [go_sem, seval, reduceCtorEq, List.append_eq, f5, g5, v5, hgt, g6, tH, f6, f7, g7, hg1, g8, hlw0, hlw1]; exact rfl) ?_; simp only [go_sem, seval, reduceCtorEq, List.append_eq, f5, g5, v5, hgt, g6, tH, f6, f7, g7, hg1, g8, hlw0, hlw1]) | refine updL hM ?_ (by omega) | (with_reducible exact fun _ _ => rfl))
        all_goals (first | omega | (simp only [decide_eq_true_eq, decide_eq_false_iff_not] at *; omega) | (simp only [List.length_append, List.length_cons, List.length_nil] <;> omega) | exact one_bv _ | exact one_sv _ | skip)
        exact ⟨(i + 1, upd μ n (some (bv ((walkL p q l).getD i z32).1)), n + 1), ⟨by simp only; omega, hkk _, by simp only; omega⟩, by simp only; omega, (sbs (by simp (maxSteps := 2000000) only [go_sem, seval, reduceCtorEq, List.append_eq]) rfl rfl)⟩
      · have f6 : ((i : Int) < (c : Int)) = False := eq_false (by omega)
        have f7 : ((i : Int) ≥ (c : Int)) = True := eq_true (by omega)
        have g7 : (i - c < l.length - c) = True := eq_true (by omega)
        have v6 : IntKind.i64.wrap ((i : Int) - (c : Int)) = ((i - c : Nat) : Int) := by rw [wi (by omega) (by omega)]; omega
        have hg1 := hi2 (i - c) (by omega)
        rw [he2 i (by omega)] at hg1
        have g8 : ((i - c) * 32 + 32 ≤ (l.length - c) * 32) = True := eq_true (by omega)
        repeat' (first | (with_reducible first | refine pa ?_ | refine pb ?_ | refine pc ?_ | refine nxt_n ?_ | refine nxt_e ?_ | refine nxt_r ?_ | refine blk_n ?_ | refine blk_r ?_ | refine blk_hit ?_ | refine blk_miss (by rfl) ?_ | refine pd ?_ | refine pe ?_ | refine pf ?_ | refine pg ?_ | apply And.intro) | (refine hK _ ?_; first | clear hK K hn0 hcl hΘ Θ | clear hK K hΘ Θ) | (with_reducible first | refine cw1 ?_ | refine cw2 ?_ | exact cw3 | exact cw4) | ((with_reducible first | refine cw5 (fun gg => ?_) | refine cw6 (fun gg => ?_) | refine cw7 (fun gg => ?_)); try simp only [gg]) | refine cs1 hG rfl ?_ ?_ | refine cs2 hG rfl ?_ ?_ | ((first | refine rga hG (by kernel_rfl) (fun Θ K hΘ hK => ?_) | refine rgb hG (by kernel_rfl) (fun Θ K hΘ hK => ?_) | refine rgc defCl hG (by kernel_rfl) cl0 (by rfl) (by kernel_rfl) (fun Θ K hΘ hcl hn0 hK => ?_) | refine rgd defCl hG (by kernel_rfl) cl0 (by rfl) (by kernel_rfl) (fun Θ K hΘ hcl hn0 hK => ?_)); simp (maxSteps := 2000000) only [go_sem, seval, reduceCtorEq, List.append_eq, f5, g5, v5, hgt, g6, tH, f6, f7, g7, v6, hg1, g8, hlw0, hlw2]) | ((first | refine Post.splitN (fun gg => ?_) (fun gg => ?_) | refine PostB.splitN (fun gg => ?_) (fun gg => ?_) | refine Post.split (fun gg => ?_) (fun gg => ?_) | refine PostB.split (fun gg => ?_) (fun gg => ?_)) <;> simp (maxSteps := 2000000) only [go_sem, seval, reduceCtorEq, List.append_eq, gg, f5, g5, v5, hgt, g6, tH, f6, f7, g7, v6, hg1, g8, hlw0, hlw2]) | (refine finR (by simp only [go_sem, seval, reduceCtorEq, List.append_eq, f5, g5, v5, hgt, g6, tH, f6, f7, g7, v6, hg1, g8, hlw0, hlw2]; exact rfl) ?_; simp only [go_sem, seval, reduceCtorEq, List.append_eq, f5, g5, v5, hgt, g6, tH, f6, f7, g7, v6, hg1, g8, hlw0, hlw2]) | refine updL hM ?_ (by omega) | (with_reducible exact fun _ _ => rfl))
        all_goals (first | omega | (simp only [decide_eq_true_eq, decide_eq_false_iff_not] at *; omega) | (simp only [List.length_append, List.length_cons, List.length_nil] <;> omega) | exact one_bv _ | exact one_sv _ | skip)
        exact ⟨(i + 1, upd μ n (some (bv ((walkL p q l).getD i z32).1)), n + 1), ⟨by simp only; omega, hkk _, by simp only; omega⟩, by simp only; omega, (sbs (by simp (maxSteps := 2000000) only [go_sem, seval, reduceCtorEq, List.append_eq]) rfl rfl)⟩
    have f5 : ((i : Int) < (l.length : Int)) = False := eq_false (by omega)
    repeat' (first | (with_reducible first | refine pa ?_ | refine pb ?_ | refine pc ?_ | refine nxt_n ?_ | refine nxt_e ?_ | refine nxt_r ?_ | refine blk_n ?_ | refine blk_r ?_ | refine blk_hit ?_ | refine blk_miss (by rfl) ?_ | refine pd ?_ | refine pe ?_ | refine pf ?_ | refine pg ?_ | apply And.intro) | (refine hK _ ?_; first | clear hK K hn0 hcl hΘ Θ | clear hK K hΘ Θ) | (with_reducible first | refine cw1 ?_ | refine cw2 ?_ | exact cw3 | exact cw4) | ((with_reducible first | refine cw5 (fun gg => ?_) | refine cw6 (fun gg => ?_) | refine cw7 (fun gg => ?_)); try simp only [gg]) | refine cs1 hG rfl ?_ ?_ | refine cs2 hG rfl ?_ ?_ | ((first | refine rga hG (by kernel_rfl) (fun Θ K hΘ hK => ?_) | refine rgb hG (by kernel_rfl) (fun Θ K hΘ hK => ?_) | refine rgc defCl hG (by kernel_rfl) cl0 (by rfl) (by kernel_rfl) (fun Θ K hΘ hcl hn0 hK => ?_) | refine rgd defCl hG (by kernel_rfl) cl0 (by rfl) (by kernel_rfl) (fun Θ K hΘ hcl hn0 hK => ?_)); simp (maxSteps := 2000000) only [go_sem, seval, reduceCtorEq, List.append_eq, f5, v2]) | ((first | refine Post.splitN (fun gg => ?_) (fun gg => ?_) | refine PostB.splitN (fun gg => ?_) (fun gg => ?_) | refine Post.split (fun gg => ?_) (fun gg => ?_) | refine PostB.split (fun gg => ?_) (fun gg => ?_)) <;> simp (maxSteps := 2000000) only [go_sem, seval, reduceCtorEq, List.append_eq, gg, f5, v2]) | (refine finR (by simp only [go_sem, seval, reduceCtorEq, List.append_eq, f5, v2]; exact rfl) ?_; simp only [go_sem, seval, reduceCtorEq, List.append_eq, f5, v2]) | refine updL hM ?_ (by omega) | (with_reducible exact fun _ _ => rfl))
    all_goals (first | omega | (simp only [decide_eq_true_eq, decide_eq_false_iff_not] at *; omega) | (simp only [List.length_append, List.length_cons, List.length_nil] <;> omega) | exact one_bv _ | exact one_sv _ | skip)
  · have f9 := eq_false h9
    have hc0 : c = 0 := by omega
    have hzc : lastL p q (l.take c) = p := by rw [hc0]; rfl
    rw [hzc] at hW3 tF hi2 he2 happ hlw2
    repeat' (first | (with_reducible first | refine pa ?_ | refine pb ?_ | refine pc ?_ | refine nxt_n ?_ | refine nxt_e ?_ | refine nxt_r ?_ | refine blk_n ?_ | refine blk_r ?_ | refine blk_hit ?_ | refine blk_miss (by rfl) ?_ | refine pd ?_ | refine pe ?_ | refine pf ?_ | refine pg ?_ | apply And.intro) | (refine hK _ ?_; first | clear hK K hn0 hcl hΘ Θ | clear hK K hΘ Θ) | (with_reducible first | refine cw1 ?_ | refine cw2 ?_ | exact cw3 | exact cw4) | ((with_reducible first | refine cw5 (fun gg => ?_) | refine cw6 (fun gg => ?_) | refine cw7 (fun gg => ?_)); try simp only [gg]) | refine cs1 hG rfl ?_ ?_ | refine cs2 hG rfl ?_ ?_ | ((fail_if_success (with_reducible first | show WC _ _ _ (.region 11 _ _) _ _ | show WC _ _ _ (.seq (.region 11 _ _) _) _ _)); (first | refine kf (fun M n => hW3 M n) rfl (by decide) cl0 hΘ hcl hn0 ?_ | refine rga hG (by kernel_rfl) (fun Θ K hΘ hK => ?_) | refine rgb hG (by kernel_rfl) (fun Θ K hΘ hK => ?_) | refine rgc defCl hG (by kernel_rfl) cl0 (by rfl) (by kernel_rfl) (fun Θ K hΘ hcl hn0 hK => ?_) | refine rgd defCl hG (by kernel_rfl) cl0 (by rfl) (by kernel_rfl) (fun Θ K hΘ hcl hn0 hK => ?_)); simp (maxSteps := 2000000) only [go_sem, seval, reduceCtorEq, List.append_eq, tb, tF, hla, hdr, hll, g1, v1, c0, f9, hzc]) | ((first | refine Post.splitN (fun gg => ?_) (fun gg => ?_) | refine PostB.splitN (fun gg => ?_) (fun gg => ?_) | refine Post.split (fun gg => ?_) (fun gg => ?_) | refine PostB.split (fun gg => ?_) (fun gg => ?_)) <;> simp (maxSteps := 2000000) only [go_sem, seval, reduceCtorEq, List.append_eq, gg, tb, tF, hla, hdr, hll, g1, v1, c0, f9, hzc]) | (refine finR (by simp only [go_sem, seval, reduceCtorEq, List.append_eq, tb, tF, hla, hdr, hll, g1, v1, c0, f9, hzc]; exact rfl) ?_; simp only [go_sem, seval, reduceCtorEq, List.append_eq, tb, tF, hla, hdr, hll, g1, v1, c0, f9, hzc]) | refine updL hM ?_ (by omega) | (with_reducible exact fun _ _ => rfl))
    all_goals (first | omega | (simp only [decide_eq_true_eq, decide_eq_false_iff_not] at *; omega) | (simp only [List.length_append, List.length_cons, List.length_nil] <;> omega) | exact one_bv _ | exact one_sv _ | skip)
    obtain ⟨M4, hM4⟩ : ∃ m : Mem, m = upd (upd M mn (some (bv p.1))) (mn + 1) (some (bv p.1)) := ⟨_, rfl⟩
    have hk4 : ∀ b, M b ≠ none → M4 b = M b := fun b hb2 => by
      have hlt : b < mn := Nat.lt_of_not_le fun k => hb2 (hM b k)
      rw [hM4, upd_ne _ _ (by omega), upd_ne _ _ (by omega)]
    rw [← hM4]
    refine WC.loopA (fun s' : Nat × Mem × Nat => ⟨[(65, .flat (.int .i64 s'.1)), (64, .flat (.int .i64 l.length)), (63, .sl false 32 l.length (idsC (walkL p q l))), (9, .sl false 32 l.length (idsC (walkL p q l))), (10, .sl false 32 c (idsC (walkL p q (l.take c)))), (12, .sl false 32 (l.length - c) (idsC (walkL (p) (q + c) (l.drop c)))), (3, .flat (.int .i64 c)), (2, .sl false 73 l.length (Ent.lC l))], s'.2.1, s'.2.2⟩) (fun s' => l.length - s'.1) (fun s' => s'.1 ≤ l.length ∧ (∀ b, M b ≠ none → s'.2.1 b = M b) ∧ mn + 1 + 1 ≤ s'.2.2) (0, M4, mn + 1 + 1) ⟨by simp only; omega, hk4, Nat.le_refl _⟩ (sbs (by simp (maxSteps := 2000000) only [go_sem, seval, reduceCtorEq, List.append_eq]) rfl rfl) ?_
    rintro ⟨i, μ, n⟩ ⟨hi, hk, hn⟩
    simp only at hi hk hn ⊢
    by_cases h : i < l.length
    · have f5 : ((i : Int) < (l.length : Int)) = True := eq_true (by omega)
      have g5 : (i < l.length) = True := eq_true h
      have v5 := wi1 (n := i) (by omega)
      have hgt := hin i h
      have g6 : (i * 32 + 32 ≤ l.length * 32) = True := eq_true (by omega)
      have tH := take_bv32 ((walkL p q l).getD i z32)
      have hkk : ∀ x, ∀ b, M b ≠ none → upd μ n x b = M b := fun x => updL hM hk (by omega)
      by_cases h7 : i < c
      · exact absurd h7 (by omega)
      · have f6 : ((i : Int) < (c : Int)) = False := eq_false (by omega)
        have f7 : ((i : Int) ≥ (c : Int)) = True := eq_true (by omega)
        have g7 : (i - c < l.length - c) = True := eq_true (by omega)
        have v6 : IntKind.i64.wrap ((i : Int) - (c : Int)) = ((i - c : Nat) : Int) := by rw [wi (by omega) (by omega)]; omega
        have hg1 := hi2 (i - c) (by omega)
        rw [he2 i (by omega)] at hg1
        have g8 : ((i - c) * 32 + 32 ≤ (l.length - c) * 32) = True := eq_true (by omega)
        repeat' (first | (with_reducible first | refine pa ?_ | refine pb ?_ | refine pc ?_ | refine nxt_n ?_ | refine nxt_e ?_ | refine nxt_r ?_ | refine blk_n ?_ | refine blk_r ?_ | refine blk_hit ?_ | refine blk_miss (by rfl) ?_ | refine pd ?_ | refine pe ?_ | refine pf ?_ | refine pg ?_ | apply And.intro) | (refine hK _ ?_; first | clear hK K hn0 hcl hΘ Θ | clear hK K hΘ Θ) | (with_reducible first | refine cw1 ?_ | refine cw2 ?_ | exact cw3 | exact cw4) | ((with_reducible first | refine cw5 (fun gg => ?_) | refine cw6 (fun gg => ?_) | refine cw7 (fun gg => ?_)); try simp only [gg]) | refine cs1 hG rfl ?_ ?_ | refine cs2 hG rfl ?_ ?_ | ((first | refine rga hG (by kernel_rfl) (fun Θ K hΘ hK => ?_) | refine rgb hG (by kernel_rfl) (fun Θ K hΘ hK => ?_) | refine rgc defCl hG (by kernel_rfl) cl0 (by rfl) (by kernel_rfl) (fun Θ K hΘ hcl hn0 hK => ?_) | refine rgd defCl hG (by kernel_rfl) cl0 (by rfl) (by kernel_rfl) (fun Θ K hΘ hcl hn0 hK => ?_)); simp (maxSteps := 2000000) only [go_sem, seval, reduceCtorEq, List.append_eq, f5, g5, v5, hgt, g6, tH, f6, f7, g7, v6, hg1, g8, hlw0, hlw2]) | ((first | refine Post.splitN (fun gg => ?_) (fun gg => ?_) | refine PostB.splitN (fun gg => ?_) (fun gg => ?_) | refine Post.split (fun gg => ?_) (fun gg => ?_) | refine PostB.split (fun gg => ?_) (fun gg => ?_)) <;> simp (maxSteps := 2000000) only [go_sem, seval, reduceCtorEq, List.append_eq, gg, f5, g5, v5, hgt, g6, tH, f6, f7, g7, v6, hg1, g8, hlw0, hlw2]) | (refine finR (by simp only [go_sem, seval, reduceCtorEq, List.append_eq, f5, g5, v5, hgt, g6, tH, f6, f7, g7, v6, hg1, g8, hlw0, hlw2]; exact rfl) ?_; simp only [go_sem, seval, reduceCtorEq, List.append_eq, f5, g5, v5, hgt, g6, tH, f6, f7, g7, v6, hg1, g8, hlw0, hlw2]) | refine updL hM ?_ (by omega) | (with_reducible exact fun _ _ => rfl))
        all_goals (first | omega | (simp only [decide_eq_true_eq, decide_eq_false_iff_not] at *; omega) | (simp only [List.length_append, List.length_cons, List.length_nil] <;> omega) | exact one_bv _ | exact one_sv _ | skip)
        exact ⟨(i + 1, upd μ n (some (bv ((walkL p q l).getD i z32).1)), n + 1), ⟨by simp only; omega, hkk _, by simp only; omega⟩, by simp only; omega, (sbs (by simp (maxSteps := 2000000) only [go_sem, seval, reduceCtorEq, List.append_eq]) rfl rfl)⟩
    have f5 : ((i : Int) < (l.length : Int)) = False := eq_false (by omega)
    repeat' (first | (with_reducible first | refine pa ?_ | refine pb ?_ | refine pc ?_ | refine nxt_n ?_ | refine nxt_e ?_ | refine nxt_r ?_ | refine blk_n ?_ | refine blk_r ?_ | refine blk_hit ?_ | refine blk_miss (by rfl) ?_ | refine pd ?_ | refine pe ?_ | refine pf ?_ | refine pg ?_ | apply And.intro) | (refine hK _ ?_; first | clear hK K hn0 hcl hΘ Θ | clear hK K hΘ Θ) | (with_reducible first | refine cw1 ?_ | refine cw2 ?_ | exact cw3 | exact cw4) | ((with_reducible first | refine cw5 (fun gg => ?_) | refine cw6 (fun gg => ?_) | refine cw7 (fun gg => ?_)); try simp only [gg]) | refine cs1 hG rfl ?_ ?_ | refine cs2 hG rfl ?_ ?_ | ((first | refine rga hG (by kernel_rfl) (fun Θ K hΘ hK => ?_) | refine rgb hG (by kernel_rfl) (fun Θ K hΘ hK => ?_) | refine rgc defCl hG (by kernel_rfl) cl0 (by rfl) (by kernel_rfl) (fun Θ K hΘ hcl hn0 hK => ?_) | refine rgd defCl hG (by kernel_rfl) cl0 (by rfl) (by kernel_rfl) (fun Θ K hΘ hcl hn0 hK => ?_)); simp (maxSteps := 2000000) only [go_sem, seval, reduceCtorEq, List.append_eq, f5, v2]) | ((first | refine Post.splitN (fun gg => ?_) (fun gg => ?_) | refine PostB.splitN (fun gg => ?_) (fun gg => ?_) | refine Post.split (fun gg => ?_) (fun gg => ?_) | refine PostB.split (fun gg => ?_) (fun gg => ?_)) <;> simp (maxSteps := 2000000) only [go_sem, seval, reduceCtorEq, List.append_eq, gg, f5, v2]) | (refine finR (by simp only [go_sem, seval, reduceCtorEq, List.append_eq, f5, v2]; exact rfl) ?_; simp only [go_sem, seval, reduceCtorEq, List.append_eq, f5, v2]) | refine updL hM ?_ (by omega) | (with_reducible exact fun _ _ => rfl))
    all_goals (first | omega | (simp only [decide_eq_true_eq, decide_eq_false_iff_not] at *; omega) | (simp only [List.length_append, List.length_cons, List.length_nil] <;> omega) | exact one_bv _ | exact one_sv _ | skip)
end Go.VL

set_option linter.unusedVariables false
set_option linter.unusedSimpArgs false
set_option maxRecDepth 100000
open Go.RowKit
namespace Go.VL
open Go.Proofs
theorem dr_cells {cs : List V} {d0 : Nat} (h : TC Tryd.prog (d0 + 3) 54 cs) : ∃ d : Dr, cs = d.c ∧ d.ok := by
  replace h := tc_struct Tryd.underlying54 h
  obtain ⟨c1, r1, rfl, k1, h⟩ := h
  obtain ⟨c2, r2, rfl, k2, h⟩ := h
  obtain ⟨c3, r3, rfl, k3, h⟩ := h
  obtain ⟨c4, r4, rfl, k4, h⟩ := h
  have hr4 : r4 = [] := h
  subst hr4
  obtain ⟨n, rfl, hn⟩ := tc_int Tryd.underlying3 k1
  obtain ⟨s, rfl, hs⟩ := tc_str Tryd.underlying9 k2
  obtain ⟨t, rfl, ht⟩ := tc_str Tryd.underlying9 k3
  obtain ⟨x, rfl⟩ := tc_id32 Tryd.underlying52 Tryd.underlying5 k4
  exact ⟨⟨n, s, t, x⟩, by simp [Dr.c], hn, hs, ht⟩
theorem ent_cells {cs : List V} {d0 : Nat} (h : TC Tryd.prog (d0 + 4) 56 cs) : ∃ e : Ent, cs = e.c ∧ e.ok := by
  replace h := tc_struct Tryd.underlying56 h
  obtain ⟨c1, r1, rfl, k1, h⟩ := h
  obtain ⟨c2, r2, rfl, k2, h⟩ := h
  obtain ⟨c3, r3, rfl, k3, h⟩ := h
  obtain ⟨c4, r4, rfl, k4, h⟩ := h
  obtain ⟨c5, r5, rfl, k5, h⟩ := h
  obtain ⟨c6, r6, rfl, k6, h⟩ := h
  obtain ⟨c7, r7, rfl, k7, h⟩ := h
  obtain ⟨c8, r8, rfl, k8, h⟩ := h
  have hr8 : r8 = [] := h
  subst hr8
  obtain ⟨n1, rfl, h1⟩ := tc_int Tryd.underlying3 k1
  obtain ⟨d, rfl, h2⟩ := dr_cells k2
  obtain ⟨n3, rfl, h3⟩ := tc_int Tryd.underlying3 k3
  obtain ⟨n4, rfl, h4⟩ := tc_int Tryd.underlying3 k4
  obtain ⟨x5, rfl⟩ := tc_id32 Tryd.underlying52 Tryd.underlying5 k5
  obtain ⟨n6, rfl, h6⟩ := tc_int Tryd.underlying3 k6
  obtain ⟨s7, rfl, h7⟩ := tc_str Tryd.underlying9 k7
  obtain ⟨s8, rfl, h8⟩ := tc_str Tryd.underlying9 k8
  exact ⟨⟨n1, d, n3, n4, x5, n6, s7, s8⟩, by simp [Ent.c], h1, h2, h3, h4, h6, h7, h8⟩
theorem ents_arg {x : V} (h : TV Tryd.prog 5 49 x) : ∃ l : List Ent, x = .sl false 73 l.length (Ent.lC l) ∧ ((∀ e ∈ l, e.ok) ∧ l.length ≤ 140737488351232) := by
  obtain ⟨l, h1, h2, h3⟩ := tc_slice Ent.c Ent.ok Tryd.underlying49 (n := 73) (by kernel_rfl) (fun c hc => ent_cells (d0 := 0) hc) (tv_sl Tryd.underlying49 h)
  simp only [List.cons.injEq, and_true] at h1
  exact ⟨l, h1, h3, h2⟩
theorem au_cells {cs : List V} {d0 : Nat} (h : TC Tryd.prog (d0 + 3) 64 cs) : ∃ a : Au, cs = a.c ∧ a.ok := by
  replace h := tc_struct Tryd.underlying64 h
  obtain ⟨c1, r1, rfl, k1, h⟩ := h
  obtain ⟨c2, r2, rfl, k2, h⟩ := h
  obtain ⟨c3, r3, rfl, k3, h⟩ := h
  obtain ⟨c4, r4, rfl, k4, h⟩ := h
  have hr4 : r4 = [] := h
  subst hr4
  obtain ⟨n, rfl, hn⟩ := tc_int Tryd.underlying3 k1
  obtain ⟨q, rfl, hq⟩ := tc_int Tryd.underlying3 k2
  obtain ⟨x, rfl⟩ := tc_id32 Tryd.underlying52 Tryd.underlying5 k3
  obtain ⟨t, rfl, ht⟩ := tc_str Tryd.underlying9 k4
  exact ⟨⟨n, q, x, t⟩, by simp [Au.c], hn, hq, ht⟩
theorem au_arg {x : V} (h : TV Tryd.prog 3 64 x) : ∃ a : Au, x = .agg a.c ∧ a.ok := by
  obtain ⟨cs, rfl, k0⟩ := tv_agg Tryd.underlying64 h
  obtain ⟨e, rfl, he⟩ := au_cells (d0 := 0) k0
  exact ⟨e, rfl, he⟩
end Go.VL

set_option linter.unusedVariables false
namespace Go.Proofs.YtbceglggojnnaaaDoor
open Go.VL
abbrev shaLaid : List (String × DataW Unit) := [("tribunal/sha.start", Rows.laid_tribunal_sha_start), ("tribunal/sha.round", Rows.laid_tribunal_sha_round)]
theorem gStart : Tryd.prog.globalNamed "tribunal/sha.start" = some 0 := by kernel_rfl
theorem gRound : Tryd.prog.globalNamed "tribunal/sha.round" = some 1 := by kernel_rfl
theorem tStart : (Tryd.prog.globals[0]?).map (·.type) = some 172 := by kernel_rfl
theorem tRound : (Tryd.prog.globals[1]?).map (·.type) = some 178 := by kernel_rfl
theorem glOk {W : World} (h : laidMetH Tryd.prog shaLaid W) : GlOk (gOf W) W GL := by
  rw [MakeChecks.laidMetH_plain _ _ _ (by kernel_rfl)] at h
  obtain ⟨ps, ⟨g0, t0, cs0, f0, p0, q0, hg0, ht0, hv0, hd0, ⟨g1, t1, cs1, f1, p1, q1, hg1, ht1, hv1, hd1, _, _⟩, _⟩, _, _⟩ := h
  obtain rfl := Option.some.inj (gStart.symm.trans hg0)
  obtain rfl := Option.some.inj (gRound.symm.trans hg1)
  obtain rfl := Option.some.inj (tStart.symm.trans ht0)
  obtain rfl := Option.some.inj (tRound.symm.trans ht1)
  have c32 : Tryd.prog.cellsOf 158 = 1 := by kernel_rfl
  have h0 := laid_u32 (l := startN) Tryd.underlying172 Tryd.underlying158 c32 (by decide) hd0
  have h1 := laid_u32 (l := roundN) Tryd.underlying178 Tryd.underlying158 c32 (by decide) hd1
  have k0 := laid_ref (w := W) (g := 0) (l := startN) (fun i hi => by rw [World.var?_cell hg0 hv0 i]; exact h0 i (by simpa [startN_len] using hi)) (by decide)
  have k1 := laid_ref (w := W) (g := 1) (l := roundN) (fun i hi => by rw [World.var?_cell hg1 hv1 i]; exact h1 i (by simpa [roundN_len] using hi)) (by decide)
  intro n cs hn
  unfold GL at hn
  split at hn
  · rename_i e; subst e; cases hn; first | exact k0 | exact k1
  · split at hn
    · rename_i e; subst e; cases hn; first | exact k1 | exact k0
    · cases hn
theorem door_met (os : Os) (args : Array Value) : laidMetH Tryd.prog shaLaid ((World.doorLaid Tryd.prog 400 os).forCall (fun _ _ => 0) ⟨#[], args, []⟩).memory :=
  laidMetH_of_parts3 (fuel := 8) (laidMet_of_run' 8 (by kernel_rfl) (by kernel_rfl)) (by kernel_rfl) (by kernel_rfl)
theorem own : ownKnob Tryd.prog.godebug = none := by kernel_rfl
theorem laidOut : laidOutB Tryd.prog = true := by kernel_rfl
end Go.Proofs.YtbceglggojnnaaaDoor
