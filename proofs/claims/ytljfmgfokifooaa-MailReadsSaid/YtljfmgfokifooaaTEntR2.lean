/- Part TEntR2 of the proof: made for this claim. -/
import Derived.Test.YtljfmgfokifooaaTEntR
set_option linter.unusedVariables false
set_option linter.unusedSimpArgs false
set_option maxRecDepth 100000
set_option maxHeartbeats 8000000
open Go.RowKit
namespace Go.VL
open Go.Proofs
def fillI32 (x : Id32) (j : Nat) (h : j ≤ 32) : Id32 := ⟨fillB x.1 32 j, fillB_len x.1 32 j (by rw [x.2]; exact h) h⟩
theorem putV_in (a m b : List V) (j : Nat) (x : V) (h : j < m.length) : putV (a ++ (m ++ b)) (a.length + j) [x] = a ++ (m.set j x ++ b) := by
  unfold putV
  rw [List.take_length_add_append, List.take_append_of_le_length (by omega), Nat.add_assoc, List.length_singleton, List.drop_length_add_append, List.drop_append_of_le_length (by omega), List.set_eq_take_append_cons_drop, if_pos h]
  simp
theorem Ent.wb (o : Ent) (j : Nat) (y : Id32) (b : UInt8) (h : j < 32) (hy : y.1 = o.prev.1.set j b) : putV o.c (38 + j) [.flat (.int .u8 (b.toNat : Int))] = ({ o with prev := y } : Ent).c := by
  rw [Ent.split4]
  have hp : ([.flat (.int .i64 o.kind)] ++ o.d.c ++ [.flat (.int .i64 o.from_)] ++ [.flat (.int .i64 o.seq)] : List V).length = 38 := by simp [Dr.c_len]
  have := putV_in ([.flat (.int .i64 o.kind)] ++ o.d.c ++ [.flat (.int .i64 o.from_)] ++ [.flat (.int .i64 o.seq)]) (bv o.prev.1) ([.flat (.int .i64 o.mask)] ++ ([.flat (.string (bs o.pay))] ++ ([.flat (.string (bs o.sig))]))) j (.flat (.int .u8 (b.toNat : Int))) (by rw [bv_length, o.prev.2]; exact h)
  rw [hp] at this
  rw [this]
  have hs : (bv o.prev.1).set j (.flat (.int .u8 (b.toNat : Int))) = bv y.1 := by rw [hy]; simp [bv, List.map_set]
  rw [hs]
  simp [Ent.c]
theorem rdE_sh (s : List UInt8) (h0 : sE s = 0) (h1 : (sR s).length ≠ 0) : rdE s = if (shE (sR s)).2 = true then ((shE (sR s)).1, true) else (ent0, false) := by
  unfold rdE
  by_cases h : (shE (sR s)).2 = true
  · rw [if_pos ⟨h0, h1, h⟩, if_pos h]
  · rw [if_neg (fun q => h q.2.2), if_neg h]
theorem R15Read_sp (s : List UInt8) (hs : s.length ≤ 4611686018427387904) : Rt 65 [.flat (.string (bs s))] (.tup [.agg (rdE s).1.c, .flat (.bool (rdE s).2)]) := by
  intro M mn
  refine fnL (C := kc 120 [] []) (rs := [.cell 2 37, .tmp 3]) envOk Try.func65 (by kernel_rfl) rfl rfl rfl rfl rfl rfl (entT _ _) ?_
  intro E hG hM
  by_cases h0 : sE s = 0
  case neg =>
    have hd : rdE s = (ent0, false) := if_neg (fun h => h0 h.1)
    have f0 : (sE s = 0) = False := eq_false h0
    rw [hd]
    repeat' (first | (with_reducible first | refine pa ?_ | refine pb ?_ | refine pc ?_ | refine nxt_n ?_ | refine nxt_e ?_ | refine nxt_r ?_ | refine blk_n ?_ | refine blk_r ?_ | refine blk_hit ?_ | refine blk_miss (by rfl) ?_ | refine pd ?_ | refine pe ?_ | refine pf ?_ | refine pg ?_ | apply And.intro) | (refine hK _ ?_; clear hK K hΘ Θ) | (with_reducible first | refine cw1 ?_ | refine cw2 ?_ | exact cw3 | exact cw4) | ((with_reducible first | refine cw5 (fun gg => ?_) | refine cw6 (fun gg => ?_) | refine cw7 (fun gg => ?_)); try simp only [gg]) | refine cs1 hG rfl ?_ ?_ | refine cs2 hG rfl ?_ ?_ | ((first | refine kg (RSplit_sp s hs _ _) rfl hΘ ?_ | refine rga hG (by kernel_rfl) (fun Θ K hΘ hK => ?_) | refine rgb hG (by kernel_rfl) (fun Θ K hΘ hK => ?_)); simp (maxSteps := 2000000) only [go_sem, seval, reduceCtorEq, List.append_eq, f0]) | ((first | refine Post.splitN (fun gg => ?_) (fun gg => ?_) | refine Post.split (fun gg => ?_) (fun gg => ?_)) <;> simp (maxSteps := 2000000) only [go_sem, seval, reduceCtorEq, List.append_eq, gg, f0]) | (refine finR (by simp only [go_sem, seval, reduceCtorEq, List.append_eq, f0]; exact rfl) ?_; simp only [go_sem, seval, reduceCtorEq, List.append_eq, f0]) | refine updL hM ?_ (by omega) | (with_reducible exact fun _ _ => rfl))
    all_goals (first | omega | (simp only [decide_eq_true_eq, decide_eq_false_iff_not] at *; omega) | (simp only [List.length_append, List.length_cons, List.length_nil] <;> omega) | exact one_bv _ | exact one_sv _ | skip)
  have f0 : (sE s = 0) = True := eq_true h0
  have hb := split_back h0
  have hm : ∀ t ∈ sR s, t.length ≤ 262144 := fun t ht => by have := split_len h0 ht; omega
  have hm2 : ∀ t ∈ sR s, t.length ≤ 140737488351232 := fun t ht => by have := hm t ht; omega
  have hS := RSplit_sp s hs
  have hok := shE_ok hm2
  have hbk := @shE_back (sR s)
  have hsh := rdE_sh s h0
  by_cases hl2 : (sR s).length < 2
  · have hd : rdE s = (ent0, false) := by
      by_cases hl0 : (sR s).length = 0
      · exact if_neg (fun h => h.2.1 hl0)
      · rw [hsh hl0, shE_0 _ (by omega) (by omega) (by omega)]; rfl
    have f2 : (((sR s).length : Int) < 2) = True := eq_true (by omega)
    rw [hd]
    repeat' (first | (with_reducible first | refine pa ?_ | refine pb ?_ | refine pc ?_ | refine nxt_n ?_ | refine nxt_e ?_ | refine nxt_r ?_ | refine blk_n ?_ | refine blk_r ?_ | refine blk_hit ?_ | refine blk_miss (by rfl) ?_ | refine pd ?_ | refine pe ?_ | refine pf ?_ | refine pg ?_ | apply And.intro) | (refine hK _ ?_; clear hK K hΘ Θ) | (with_reducible first | refine cw1 ?_ | refine cw2 ?_ | exact cw3 | exact cw4) | ((with_reducible first | refine cw5 (fun gg => ?_) | refine cw6 (fun gg => ?_) | refine cw7 (fun gg => ?_)); try simp only [gg]) | refine cs1 hG rfl ?_ ?_ | refine cs2 hG rfl ?_ ?_ | ((first | refine kg (hS _ _) rfl hΘ ?_ | refine rga hG (by kernel_rfl) (fun Θ K hΘ hK => ?_) | refine rgb hG (by kernel_rfl) (fun Θ K hΘ hK => ?_)); simp (maxSteps := 2000000) only [go_sem, seval, reduceCtorEq, List.append_eq, f0, f2]) | ((first | refine Post.splitN (fun gg => ?_) (fun gg => ?_) | refine Post.split (fun gg => ?_) (fun gg => ?_)) <;> simp (maxSteps := 2000000) only [go_sem, seval, reduceCtorEq, List.append_eq, gg, f0, f2]) | (refine finR (by simp only [go_sem, seval, reduceCtorEq, List.append_eq, f0, f2]; exact rfl) ?_; simp only [go_sem, seval, reduceCtorEq, List.append_eq, f0, f2]) | refine updL hM ?_ (by omega) | (with_reducible exact fun _ _ => rfl))
    all_goals (first | omega | (simp only [decide_eq_true_eq, decide_eq_false_iff_not] at *; omega) | (simp only [List.length_append, List.length_cons, List.length_nil] <;> omega) | exact one_bv _ | exact one_sv _ | skip)
  have f2 : (((sR s).length : Int) < 2) = False := eq_false (by omega)
  have hsh := hsh (by omega)
  have g0 : (0 < (sR s).length) = True := eq_true (by omega)
  generalize sR s = l at *
  have hN := R15Num_sp (l.getD 0 []) (by
    rw [List.getD_eq_getElem?_getD, List.getElem?_eq_getElem (by omega)]; exact hm _ (List.getElem_mem _))
  by_cases h1 : numT (l.getD 0 []) = 1 ∧ l.length = 2
  · obtain ⟨a, b, rfl⟩ := list2 h1.2
    have hk := h1.1
    simp only [List.getD_cons_zero] at hk hN
    have hbl : b.length ≤ 262144 := hm b (by simp)
    rw [shE_1 a b hk] at hsh hok hbk
    rw [hsh]
    have f3 : (((2 : Nat) : Int) = 2) = True := eq_true rfl
    by_cases hr : (rdDrG b).2 = 0
    · have hr' := eq_true hr
      obtain ⟨hgd, _⟩ := hbk (by simp only; exact decide_eq_true hr)
      simp only at hgd hok
      rw [if_pos (decide_eq_true hr)]
      repeat' (first | (with_reducible first | refine pa ?_ | refine pb ?_ | refine pc ?_ | refine nxt_n ?_ | refine nxt_e ?_ | refine nxt_r ?_ | refine blk_n ?_ | refine blk_r ?_ | refine blk_hit ?_ | refine blk_miss (by rfl) ?_ | refine pd ?_ | refine pe ?_ | refine pf ?_ | refine pg ?_ | apply And.intro) | (refine hK _ ?_; clear hK K hΘ Θ) | (with_reducible first | refine cw1 ?_ | refine cw2 ?_ | exact cw3 | exact cw4) | ((with_reducible first | refine cw5 (fun gg => ?_) | refine cw6 (fun gg => ?_) | refine cw7 (fun gg => ?_)); try simp only [gg]) | refine cs1 hG rfl ?_ ?_ | refine cs2 hG rfl ?_ ?_ | ((first | refine kg (hS _ _) rfl hΘ ?_ | refine kg (hN _ _) rfl hΘ ?_ | refine kg (R9ReadDraft_sp b (by omega) _ _) rfl hΘ ?_ | refine kg (R15Good_sp _ hok _ _) rfl hΘ ?_ | refine rga hG (by kernel_rfl) (fun Θ K hΘ hK => ?_) | refine rgb hG (by kernel_rfl) (fun Θ K hΘ hK => ?_)); simp (maxSteps := 2000000) only [go_sem, seval, reduceCtorEq, List.append_eq, f0, f2, f3, hk, sv_c, sv_n, hr', hgd]) | ((first | refine Post.splitN (fun gg => ?_) (fun gg => ?_) | refine Post.split (fun gg => ?_) (fun gg => ?_)) <;> simp (maxSteps := 2000000) only [go_sem, seval, reduceCtorEq, List.append_eq, gg, f0, f2, f3, hk, sv_c, sv_n, hr', hgd]) | (refine finR (by simp only [go_sem, seval, reduceCtorEq, List.append_eq, f0, f2, f3, hk, sv_c, sv_n, hr', hgd]; exact rfl) ?_; simp only [go_sem, seval, reduceCtorEq, List.append_eq, f0, f2, f3, hk, sv_c, sv_n, hr', hgd]) | refine updL hM ?_ (by omega) | (with_reducible exact fun _ _ => rfl))
      all_goals (first | omega | (simp only [decide_eq_true_eq, decide_eq_false_iff_not] at *; omega) | (simp only [List.length_append, List.length_cons, List.length_nil] <;> omega) | exact one_bv _ | exact one_sv _ | skip)
    · have hr' := eq_false hr
      rw [if_neg (by simpa using hr)]
      repeat' (first | (with_reducible first | refine pa ?_ | refine pb ?_ | refine pc ?_ | refine nxt_n ?_ | refine nxt_e ?_ | refine nxt_r ?_ | refine blk_n ?_ | refine blk_r ?_ | refine blk_hit ?_ | refine blk_miss (by rfl) ?_ | refine pd ?_ | refine pe ?_ | refine pf ?_ | refine pg ?_ | apply And.intro) | (refine hK _ ?_; clear hK K hΘ Θ) | (with_reducible first | refine cw1 ?_ | refine cw2 ?_ | exact cw3 | exact cw4) | ((with_reducible first | refine cw5 (fun gg => ?_) | refine cw6 (fun gg => ?_) | refine cw7 (fun gg => ?_)); try simp only [gg]) | refine cs1 hG rfl ?_ ?_ | refine cs2 hG rfl ?_ ?_ | ((first | refine kg (hS _ _) rfl hΘ ?_ | refine kg (hN _ _) rfl hΘ ?_ | refine kg (R9ReadDraft_sp b (by omega) _ _) rfl hΘ ?_ | refine rga hG (by kernel_rfl) (fun Θ K hΘ hK => ?_) | refine rgb hG (by kernel_rfl) (fun Θ K hΘ hK => ?_)); simp (maxSteps := 2000000) only [go_sem, seval, reduceCtorEq, List.append_eq, f0, f2, f3, hk, sv_c, sv_n, hr']) | ((first | refine Post.splitN (fun gg => ?_) (fun gg => ?_) | refine Post.split (fun gg => ?_) (fun gg => ?_)) <;> simp (maxSteps := 2000000) only [go_sem, seval, reduceCtorEq, List.append_eq, gg, f0, f2, f3, hk, sv_c, sv_n, hr']) | (refine finR (by simp only [go_sem, seval, reduceCtorEq, List.append_eq, f0, f2, f3, hk, sv_c, sv_n, hr']; exact rfl) ?_; simp only [go_sem, seval, reduceCtorEq, List.append_eq, f0, f2, f3, hk, sv_c, sv_n, hr']) | refine updL hM ?_ (by omega) | (with_reducible exact fun _ _ => rfl))
      all_goals (first | omega | (simp only [decide_eq_true_eq, decide_eq_false_iff_not] at *; omega) | (simp only [List.length_append, List.length_cons, List.length_nil] <;> omega) | exact one_bv _ | exact one_sv _ | skip)
  by_cases h3 : numT (l.getD 0 []) = 3 ∧ l.length = 3
  · obtain ⟨a, b, c, rfl⟩ := list3 h3.2
    have hk := h3.1
    simp only [List.getD_cons_zero] at hk hN
    have hbl : b.length ≤ 262144 := hm b (by simp)
    rw [shE_3 a b c hk] at hsh hok
    rw [hsh]
    simp only at hok ⊢
    have f3 : (((3 : Nat) : Int) = 3) = True := eq_true rfl
    generalize hE : ({ kind := 3, d := ent0.d, from_ := ent0.from_, seq := ent0.seq, prev := ent0.prev, mask := numT b, pay := c, sig := ent0.sig } : Ent) = E3 at *
    by_cases hg : E3.good = true
    · rw [if_pos hg]
      repeat' (first | (with_reducible first | refine pa ?_ | refine pb ?_ | refine pc ?_ | refine nxt_n ?_ | refine nxt_e ?_ | refine nxt_r ?_ | refine blk_n ?_ | refine blk_r ?_ | refine blk_hit ?_ | refine blk_miss (by rfl) ?_ | refine pd ?_ | refine pe ?_ | refine pf ?_ | refine pg ?_ | apply And.intro) | (refine hK _ ?_; clear hK K hΘ Θ) | (with_reducible first | refine cw1 ?_ | refine cw2 ?_ | exact cw3 | exact cw4) | ((with_reducible first | refine cw5 (fun gg => ?_) | refine cw6 (fun gg => ?_) | refine cw7 (fun gg => ?_)); try simp only [gg]) | refine cs1 hG rfl ?_ ?_ | refine cs2 hG rfl ?_ ?_ | ((first | refine kg (hS _ _) rfl hΘ ?_ | refine kg (hN _ _) rfl hΘ ?_ | refine kg (R15Num_sp b hbl _ _) rfl hΘ ?_ | refine kg (R15Good_sp _ hok _ _) rfl hΘ ?_ | refine rga hG (by kernel_rfl) (fun Θ K hΘ hK => ?_) | refine rgb hG (by kernel_rfl) (fun Θ K hΘ hK => ?_)); simp (maxSteps := 2000000) only [go_sem, seval, reduceCtorEq, List.append_eq, f0, f2, f3, hk, sv_c, sv_n, hE, hg]) | ((first | refine Post.splitN (fun gg => ?_) (fun gg => ?_) | refine Post.split (fun gg => ?_) (fun gg => ?_)) <;> simp (maxSteps := 2000000) only [go_sem, seval, reduceCtorEq, List.append_eq, gg, f0, f2, f3, hk, sv_c, sv_n, hE, hg]) | (refine finR (by simp only [go_sem, seval, reduceCtorEq, List.append_eq, f0, f2, f3, hk, sv_c, sv_n, hE, hg]; exact rfl) ?_; simp only [go_sem, seval, reduceCtorEq, List.append_eq, f0, f2, f3, hk, sv_c, sv_n, hE, hg]) | refine updL hM ?_ (by omega) | (with_reducible exact fun _ _ => rfl))
      all_goals (first | omega | (simp only [decide_eq_true_eq, decide_eq_false_iff_not] at *; omega) | (simp only [List.length_append, List.length_cons, List.length_nil] <;> omega) | exact one_bv _ | exact one_sv _ | skip)
    · have hg' : E3.good = false := by simpa using hg
      rw [if_neg hg]
      repeat' (first | (with_reducible first | refine pa ?_ | refine pb ?_ | refine pc ?_ | refine nxt_n ?_ | refine nxt_e ?_ | refine nxt_r ?_ | refine blk_n ?_ | refine blk_r ?_ | refine blk_hit ?_ | refine blk_miss (by rfl) ?_ | refine pd ?_ | refine pe ?_ | refine pf ?_ | refine pg ?_ | apply And.intro) | (refine hK _ ?_; clear hK K hΘ Θ) | (with_reducible first | refine cw1 ?_ | refine cw2 ?_ | exact cw3 | exact cw4) | ((with_reducible first | refine cw5 (fun gg => ?_) | refine cw6 (fun gg => ?_) | refine cw7 (fun gg => ?_)); try simp only [gg]) | refine cs1 hG rfl ?_ ?_ | refine cs2 hG rfl ?_ ?_ | ((first | refine kg (hS _ _) rfl hΘ ?_ | refine kg (hN _ _) rfl hΘ ?_ | refine kg (R15Num_sp b hbl _ _) rfl hΘ ?_ | refine kg (R15Good_sp _ hok _ _) rfl hΘ ?_ | refine rga hG (by kernel_rfl) (fun Θ K hΘ hK => ?_) | refine rgb hG (by kernel_rfl) (fun Θ K hΘ hK => ?_)); simp (maxSteps := 2000000) only [go_sem, seval, reduceCtorEq, List.append_eq, f0, f2, f3, hk, sv_c, sv_n, hE, hg']) | ((first | refine Post.splitN (fun gg => ?_) (fun gg => ?_) | refine Post.split (fun gg => ?_) (fun gg => ?_)) <;> simp (maxSteps := 2000000) only [go_sem, seval, reduceCtorEq, List.append_eq, gg, f0, f2, f3, hk, sv_c, sv_n, hE, hg']) | (refine finR (by simp only [go_sem, seval, reduceCtorEq, List.append_eq, f0, f2, f3, hk, sv_c, sv_n, hE, hg']; exact rfl) ?_; simp only [go_sem, seval, reduceCtorEq, List.append_eq, f0, f2, f3, hk, sv_c, sv_n, hE, hg']) | refine updL hM ?_ (by omega) | (with_reducible exact fun _ _ => rfl))
      all_goals (first | omega | (simp only [decide_eq_true_eq, decide_eq_false_iff_not] at *; omega) | (simp only [List.length_append, List.length_cons, List.length_nil] <;> omega) | exact one_bv _ | exact one_sv _ | skip)
  by_cases h7 : numT (l.getD 0 []) = 2 ∧ l.length = 7 ∧ (l.getD 3 []).length = 32
  · obtain ⟨a, b, c, d, e, f, g, rfl⟩ := list7 h7.2.1
    have hk := h7.1
    obtain ⟨x, rfl⟩ : ∃ x : Id32, d = x.1 := ⟨⟨d, h7.2.2⟩, rfl⟩
    simp only [List.getD_cons_zero] at hk hN
    have hbl : b.length ≤ 262144 := hm b (by simp)
    have hcl : c.length ≤ 262144 := hm c (by simp)
    have hel : e.length ≤ 262144 := hm e (by simp)
    rw [shE_2 a b c e f g x hk] at hsh hok
    rw [hsh]
    simp only at hok ⊢
    have hx := x.2
    have f7 : (((7 : Nat) : Int) = 7) = True := eq_true rfl
    have f32 : (((32 : Nat) : Int) = 32) = True := eq_true rfl
    have hz0 : fillI32 x 0 (by omega) = z32 := rfl
    have hz1 : fillI32 x 32 (by omega) = x := by
      apply Subtype.ext
      have := fillB_all x.1
      rw [hx] at this; exact this
    repeat' (first | (with_reducible first | refine pa ?_ | refine pb ?_ | refine pc ?_ | refine nxt_n ?_ | refine nxt_e ?_ | refine nxt_r ?_ | refine blk_n ?_ | refine blk_r ?_ | refine blk_hit ?_ | refine blk_miss (by rfl) ?_ | refine pd ?_ | refine pe ?_ | refine pf ?_ | refine pg ?_ | apply And.intro) | (refine hK _ ?_; clear hK K hΘ Θ) | (with_reducible first | refine cw1 ?_ | refine cw2 ?_ | exact cw3 | exact cw4) | ((with_reducible first | refine cw5 (fun gg => ?_) | refine cw6 (fun gg => ?_) | refine cw7 (fun gg => ?_)); try simp only [gg]) | refine cs1 hG rfl ?_ ?_ | refine cs2 hG rfl ?_ ?_ | ((first | refine kg (hS _ _) rfl hΘ ?_ | refine kg (hN _ _) rfl hΘ ?_ | refine kg (R15Num_sp b hbl _ _) rfl hΘ ?_ | refine kg (R15Num_sp c hcl _ _) rfl hΘ ?_ | refine rga hG (by kernel_rfl) (fun Θ K hΘ hK => ?_) | refine rgb hG (by kernel_rfl) (fun Θ K hΘ hK => ?_)); simp (maxSteps := 2000000) only [go_sem, seval, reduceCtorEq, List.append_eq, f0, f2, f7, f32, hk, sv_c, sv_n, hx]) | ((first | refine Post.splitN (fun gg => ?_) (fun gg => ?_) | refine Post.split (fun gg => ?_) (fun gg => ?_)) <;> simp (maxSteps := 2000000) only [go_sem, seval, reduceCtorEq, List.append_eq, gg, f0, f2, f7, f32, hk, sv_c, sv_n, hx]) | (refine finR (by simp only [go_sem, seval, reduceCtorEq, List.append_eq, f0, f2, f7, f32, hk, sv_c, sv_n, hx]; exact rfl) ?_; simp only [go_sem, seval, reduceCtorEq, List.append_eq, f0, f2, f7, f32, hk, sv_c, sv_n, hx]) | refine updL hM ?_ (by omega) | (with_reducible exact fun _ _ => rfl))
    all_goals (first | omega | (simp only [decide_eq_true_eq, decide_eq_false_iff_not] at *; omega) | (simp only [List.length_append, List.length_cons, List.length_nil] <;> omega) | exact one_bv _ | exact one_sv _ | skip)
    refine WC.loopA (fun k : { k : Nat // k ≤ 32 } => ⟨[(90, .flat (.int .i64 k.1)), (6, .bp (mn + 1) 0), (4, .sl false 1 7 (sv [a, b, c, x.1, e, f, g])), (2, .bp mn 0)], upd (upd M mn (some ent0.c)) (mn + 1) (some (Ent.c { kind := 2, d := ent0.d, from_ := numT b, seq := numT c, prev := fillI32 x k.1 k.2, mask := ent0.mask, pay := ent0.pay, sig := ent0.sig })), mn + 1 + 1⟩) (fun k => 32 - k.1) (fun _ => True) ⟨0, by omega⟩ trivial (sbs (by simp (maxSteps := 2000000) only [go_sem, seval, reduceCtorEq, List.append_eq, sv_c, sv_n, hz0]) rfl rfl) ?_
    rintro ⟨k, hk32⟩ _
    by_cases h : k < 32
    · have q1 : ((k : Int) < 32) = True := eq_true (by omega)
      have q2 : (k < 32) = True := eq_true h
      have v1 := wi1 (n := k) (by omega)
      have hwb := Ent.wb { kind := 2, d := ent0.d, from_ := numT b, seq := numT c, prev := fillI32 x k hk32, mask := ent0.mask, pay := ent0.pay, sig := ent0.sig } k (fillI32 x (k + 1) (by omega)) (x.1.getD k 0) h (fillB_set x.1 32 k (by omega) h).symm
      have q3 : (38 + k + 1 ≤ 73) = True := eq_true (by omega)
      repeat' (first | (with_reducible first | refine pa ?_ | refine pb ?_ | refine pc ?_ | refine nxt_n ?_ | refine nxt_e ?_ | refine nxt_r ?_ | refine blk_n ?_ | refine blk_r ?_ | refine blk_hit ?_ | refine blk_miss (by rfl) ?_ | refine pd ?_ | refine pe ?_ | refine pf ?_ | refine pg ?_ | apply And.intro) | (refine hK _ ?_; clear hK K hΘ Θ) | (with_reducible first | refine cw1 ?_ | refine cw2 ?_ | exact cw3 | exact cw4) | ((with_reducible first | refine cw5 (fun gg => ?_) | refine cw6 (fun gg => ?_) | refine cw7 (fun gg => ?_)); try simp only [gg]) | refine cs1 hG rfl ?_ ?_ | refine cs2 hG rfl ?_ ?_ | ((first | refine rga hG (by kernel_rfl) (fun Θ K hΘ hK => ?_) | refine rgb hG (by kernel_rfl) (fun Θ K hΘ hK => ?_)); simp (maxSteps := 2000000) only [go_sem, seval, reduceCtorEq, List.append_eq, q1, q2, q3, v1, hx, sv_c, sv_n, hwb]) | ((first | refine Post.splitN (fun gg => ?_) (fun gg => ?_) | refine Post.split (fun gg => ?_) (fun gg => ?_)) <;> simp (maxSteps := 2000000) only [go_sem, seval, reduceCtorEq, List.append_eq, gg, q1, q2, q3, v1, hx, sv_c, sv_n, hwb]) | (refine finR (by simp only [go_sem, seval, reduceCtorEq, List.append_eq, q1, q2, q3, v1, hx, sv_c, sv_n, hwb]; exact rfl) ?_; simp only [go_sem, seval, reduceCtorEq, List.append_eq, q1, q2, q3, v1, hx, sv_c, sv_n, hwb]) | refine updL hM ?_ (by omega) | (with_reducible exact fun _ _ => rfl))
      all_goals (first | omega | (simp only [decide_eq_true_eq, decide_eq_false_iff_not] at *; omega) | (simp only [List.length_append, List.length_cons, List.length_nil] <;> omega) | exact one_bv _ | exact one_sv _ | skip)
      exact ⟨⟨k + 1, by omega⟩, trivial, by simp only; omega, (sbs (by simp (maxSteps := 2000000) only [go_sem, seval, reduceCtorEq, List.append_eq, sv_c, sv_n]) rfl rfl)⟩
    · have q1 : ((k : Int) < 32) = False := eq_false (by omega)
      have e32 : k = 32 := by omega
      subst e32
      generalize hE : ({ kind := 2, d := ent0.d, from_ := numT b, seq := numT c, prev := x, mask := numT e, pay := f, sig := g } : Ent) = E2 at *
      have hsw : ∀ (a c : Option (List V)), upd (upd M mn a) (mn + 1) c mn = a := fun a c => by rw [upd_ne _ _ (by omega), upd_same]
      have hs2 : ∀ (a b c : Option (List V)), upd (upd (upd M mn a) (mn + 1) b) mn c = upd (upd M mn c) (mn + 1) b := fun a b c => by rw [upd_swap (by omega), upd_upd]
      by_cases hg : E2.good = true
      · rw [if_pos hg]
        repeat' (first | (with_reducible first | refine pa ?_ | refine pb ?_ | refine pc ?_ | refine nxt_n ?_ | refine nxt_e ?_ | refine nxt_r ?_ | refine blk_n ?_ | refine blk_r ?_ | refine blk_hit ?_ | refine blk_miss (by rfl) ?_ | refine pd ?_ | refine pe ?_ | refine pf ?_ | refine pg ?_ | apply And.intro) | (refine hK _ ?_; clear hK K hΘ Θ) | (with_reducible first | refine cw1 ?_ | refine cw2 ?_ | exact cw3 | exact cw4) | ((with_reducible first | refine cw5 (fun gg => ?_) | refine cw6 (fun gg => ?_) | refine cw7 (fun gg => ?_)); try simp only [gg]) | refine cs1 hG rfl ?_ ?_ | refine cs2 hG rfl ?_ ?_ | ((first | refine kg (R15Num_sp e hel _ _) rfl hΘ ?_ | refine kg (R15Good_sp _ hok _ _) rfl hΘ ?_ | refine rga hG (by kernel_rfl) (fun Θ K hΘ hK => ?_) | refine rgb hG (by kernel_rfl) (fun Θ K hΘ hK => ?_)); simp (maxSteps := 2000000) only [go_sem, seval, reduceCtorEq, List.append_eq, q1, sv_c, sv_n, hz1, hE, hg, hsw, hs2]) | ((first | refine Post.splitN (fun gg => ?_) (fun gg => ?_) | refine Post.split (fun gg => ?_) (fun gg => ?_)) <;> simp (maxSteps := 2000000) only [go_sem, seval, reduceCtorEq, List.append_eq, gg, q1, sv_c, sv_n, hz1, hE, hg, hsw, hs2]) | (refine finR (by simp only [go_sem, seval, reduceCtorEq, List.append_eq, q1, sv_c, sv_n, hz1, hE, hg, hsw, hs2]; exact rfl) ?_; simp only [go_sem, seval, reduceCtorEq, List.append_eq, q1, sv_c, sv_n, hz1, hE, hg, hsw, hs2]) | refine updL hM ?_ (by omega) | (with_reducible exact fun _ _ => rfl))
        all_goals (first | omega | (simp only [decide_eq_true_eq, decide_eq_false_iff_not] at *; omega) | (simp only [List.length_append, List.length_cons, List.length_nil] <;> omega) | exact one_bv _ | exact one_sv _ | skip)
      · have hg' : E2.good = false := by simpa using hg
        rw [if_neg hg]
        repeat' (first | (with_reducible first | refine pa ?_ | refine pb ?_ | refine pc ?_ | refine nxt_n ?_ | refine nxt_e ?_ | refine nxt_r ?_ | refine blk_n ?_ | refine blk_r ?_ | refine blk_hit ?_ | refine blk_miss (by rfl) ?_ | refine pd ?_ | refine pe ?_ | refine pf ?_ | refine pg ?_ | apply And.intro) | (refine hK _ ?_; clear hK K hΘ Θ) | (with_reducible first | refine cw1 ?_ | refine cw2 ?_ | exact cw3 | exact cw4) | ((with_reducible first | refine cw5 (fun gg => ?_) | refine cw6 (fun gg => ?_) | refine cw7 (fun gg => ?_)); try simp only [gg]) | refine cs1 hG rfl ?_ ?_ | refine cs2 hG rfl ?_ ?_ | ((first | refine kg (R15Num_sp e hel _ _) rfl hΘ ?_ | refine kg (R15Good_sp _ hok _ _) rfl hΘ ?_ | refine rga hG (by kernel_rfl) (fun Θ K hΘ hK => ?_) | refine rgb hG (by kernel_rfl) (fun Θ K hΘ hK => ?_)); simp (maxSteps := 2000000) only [go_sem, seval, reduceCtorEq, List.append_eq, q1, sv_c, sv_n, hz1, hE, hg', hsw, hs2]) | ((first | refine Post.splitN (fun gg => ?_) (fun gg => ?_) | refine Post.split (fun gg => ?_) (fun gg => ?_)) <;> simp (maxSteps := 2000000) only [go_sem, seval, reduceCtorEq, List.append_eq, gg, q1, sv_c, sv_n, hz1, hE, hg', hsw, hs2]) | (refine finR (by simp only [go_sem, seval, reduceCtorEq, List.append_eq, q1, sv_c, sv_n, hz1, hE, hg', hsw, hs2]; exact rfl) ?_; simp only [go_sem, seval, reduceCtorEq, List.append_eq, q1, sv_c, sv_n, hz1, hE, hg', hsw, hs2]) | refine updL hM ?_ (by omega) | (with_reducible exact fun _ _ => rfl))
        all_goals (first | omega | (simp only [decide_eq_true_eq, decide_eq_false_iff_not] at *; omega) | (simp only [List.length_append, List.length_cons, List.length_nil] <;> omega) | exact one_bv _ | exact one_sv _ | skip)
  have hsh0 := shE_0 l h1 h7 h3
  rw [hsh0] at hsh
  rw [hsh]
  have hk0 := entK_ok (numT_inR (l.getD 0 []))
  have hkn := entK_no (numT (l.getD 0 []))
  generalize hkk : numT (l.getD 0 []) = k at *
  have hE : ({ kind := k, d := ent0.d, from_ := ent0.from_, seq := ent0.seq, prev := ent0.prev, mask := ent0.mask, pay := ent0.pay, sig := ent0.sig } : Ent) = entK k := rfl
  have hEk : (entK k).kind = k := rfl
  by_cases c1 : k = 1
  · have q1 : ((l.length : Int) = 2) = False := eq_false (fun q => h1 ⟨c1, by omega⟩)
    have q0 := eq_true c1
    have q2 : (k = 2) = False := eq_false (by omega)
    have q3 : (k = 3) = False := eq_false (by omega)
    repeat' (first | (with_reducible first | refine pa ?_ | refine pb ?_ | refine pc ?_ | refine nxt_n ?_ | refine nxt_e ?_ | refine nxt_r ?_ | refine blk_n ?_ | refine blk_r ?_ | refine blk_hit ?_ | refine blk_miss (by rfl) ?_ | refine pd ?_ | refine pe ?_ | refine pf ?_ | refine pg ?_ | apply And.intro) | (refine hK _ ?_; clear hK K hΘ Θ) | (with_reducible first | refine cw1 ?_ | refine cw2 ?_ | exact cw3 | exact cw4) | ((with_reducible first | refine cw5 (fun gg => ?_) | refine cw6 (fun gg => ?_) | refine cw7 (fun gg => ?_)); try simp only [gg]) | refine cs1 hG rfl ?_ ?_ | refine cs2 hG rfl ?_ ?_ | ((first | refine kg (hS _ _) rfl hΘ ?_ | refine kg (hN _ _) rfl hΘ ?_ | refine kg (R15Good_sp _ hk0 _ _) rfl hΘ ?_ | refine rga hG (by kernel_rfl) (fun Θ K hΘ hK => ?_) | refine rgb hG (by kernel_rfl) (fun Θ K hΘ hK => ?_)); simp (maxSteps := 2000000) only [go_sem, seval, reduceCtorEq, List.append_eq, f0, f2, g0, q0, q1, q2, q3, hE, hEk, hkn]) | ((first | refine Post.splitN (fun gg => ?_) (fun gg => ?_) | refine Post.split (fun gg => ?_) (fun gg => ?_)) <;> simp (maxSteps := 2000000) only [go_sem, seval, reduceCtorEq, List.append_eq, gg, f0, f2, g0, q0, q1, q2, q3, hE, hEk, hkn]) | (refine finR (by simp only [go_sem, seval, reduceCtorEq, List.append_eq, f0, f2, g0, q0, q1, q2, q3, hE, hEk, hkn]; exact rfl) ?_; simp only [go_sem, seval, reduceCtorEq, List.append_eq, f0, f2, g0, q0, q1, q2, q3, hE, hEk, hkn]) | refine updL hM ?_ (by omega) | (with_reducible exact fun _ _ => rfl))
    all_goals (first | omega | (simp only [decide_eq_true_eq, decide_eq_false_iff_not] at *; omega) | (simp only [List.length_append, List.length_cons, List.length_nil] <;> omega) | exact one_bv _ | exact one_sv _ | skip)
  have q1 := eq_false c1
  by_cases c2 : k = 2
  · have q2 := eq_true c2
    have q3 : (k = 3) = False := eq_false (by omega)
    by_cases c7 : l.length = 7
    · have q7 : ((l.length : Int) = 7) = True := eq_true (by omega)
      have g3 : (3 < l.length) = True := eq_true (by omega)
      have q32 : (((l.getD 3 []).length : Int) = 32) = False := eq_false (fun q => h7 ⟨c2, c7, by omega⟩)
      repeat' (first | (with_reducible first | refine pa ?_ | refine pb ?_ | refine pc ?_ | refine nxt_n ?_ | refine nxt_e ?_ | refine nxt_r ?_ | refine blk_n ?_ | refine blk_r ?_ | refine blk_hit ?_ | refine blk_miss (by rfl) ?_ | refine pd ?_ | refine pe ?_ | refine pf ?_ | refine pg ?_ | apply And.intro) | (refine hK _ ?_; clear hK K hΘ Θ) | (with_reducible first | refine cw1 ?_ | refine cw2 ?_ | exact cw3 | exact cw4) | ((with_reducible first | refine cw5 (fun gg => ?_) | refine cw6 (fun gg => ?_) | refine cw7 (fun gg => ?_)); try simp only [gg]) | refine cs1 hG rfl ?_ ?_ | refine cs2 hG rfl ?_ ?_ | ((first | refine kg (hS _ _) rfl hΘ ?_ | refine kg (hN _ _) rfl hΘ ?_ | refine kg (R15Good_sp _ hk0 _ _) rfl hΘ ?_ | refine rga hG (by kernel_rfl) (fun Θ K hΘ hK => ?_) | refine rgb hG (by kernel_rfl) (fun Θ K hΘ hK => ?_)); simp (maxSteps := 2000000) only [go_sem, seval, reduceCtorEq, List.append_eq, f0, f2, g0, q1, q2, q3, q7, g3, q32, hE, hEk, hkn]) | ((first | refine Post.splitN (fun gg => ?_) (fun gg => ?_) | refine Post.split (fun gg => ?_) (fun gg => ?_)) <;> simp (maxSteps := 2000000) only [go_sem, seval, reduceCtorEq, List.append_eq, gg, f0, f2, g0, q1, q2, q3, q7, g3, q32, hE, hEk, hkn]) | (refine finR (by simp only [go_sem, seval, reduceCtorEq, List.append_eq, f0, f2, g0, q1, q2, q3, q7, g3, q32, hE, hEk, hkn]; exact rfl) ?_; simp only [go_sem, seval, reduceCtorEq, List.append_eq, f0, f2, g0, q1, q2, q3, q7, g3, q32, hE, hEk, hkn]) | refine updL hM ?_ (by omega) | (with_reducible exact fun _ _ => rfl))
      all_goals (first | omega | (simp only [decide_eq_true_eq, decide_eq_false_iff_not] at *; omega) | (simp only [List.length_append, List.length_cons, List.length_nil] <;> omega) | exact one_bv _ | exact one_sv _ | skip)
    · have q7 : ((l.length : Int) = 7) = False := eq_false (by omega)
      repeat' (first | (with_reducible first | refine pa ?_ | refine pb ?_ | refine pc ?_ | refine nxt_n ?_ | refine nxt_e ?_ | refine nxt_r ?_ | refine blk_n ?_ | refine blk_r ?_ | refine blk_hit ?_ | refine blk_miss (by rfl) ?_ | refine pd ?_ | refine pe ?_ | refine pf ?_ | refine pg ?_ | apply And.intro) | (refine hK _ ?_; clear hK K hΘ Θ) | (with_reducible first | refine cw1 ?_ | refine cw2 ?_ | exact cw3 | exact cw4) | ((with_reducible first | refine cw5 (fun gg => ?_) | refine cw6 (fun gg => ?_) | refine cw7 (fun gg => ?_)); try simp only [gg]) | refine cs1 hG rfl ?_ ?_ | refine cs2 hG rfl ?_ ?_ | ((first | refine kg (hS _ _) rfl hΘ ?_ | refine kg (hN _ _) rfl hΘ ?_ | refine kg (R15Good_sp _ hk0 _ _) rfl hΘ ?_ | refine rga hG (by kernel_rfl) (fun Θ K hΘ hK => ?_) | refine rgb hG (by kernel_rfl) (fun Θ K hΘ hK => ?_)); simp (maxSteps := 2000000) only [go_sem, seval, reduceCtorEq, List.append_eq, f0, f2, g0, q1, q2, q3, q7, hE, hEk, hkn]) | ((first | refine Post.splitN (fun gg => ?_) (fun gg => ?_) | refine Post.split (fun gg => ?_) (fun gg => ?_)) <;> simp (maxSteps := 2000000) only [go_sem, seval, reduceCtorEq, List.append_eq, gg, f0, f2, g0, q1, q2, q3, q7, hE, hEk, hkn]) | (refine finR (by simp only [go_sem, seval, reduceCtorEq, List.append_eq, f0, f2, g0, q1, q2, q3, q7, hE, hEk, hkn]; exact rfl) ?_; simp only [go_sem, seval, reduceCtorEq, List.append_eq, f0, f2, g0, q1, q2, q3, q7, hE, hEk, hkn]) | refine updL hM ?_ (by omega) | (with_reducible exact fun _ _ => rfl))
      all_goals (first | omega | (simp only [decide_eq_true_eq, decide_eq_false_iff_not] at *; omega) | (simp only [List.length_append, List.length_cons, List.length_nil] <;> omega) | exact one_bv _ | exact one_sv _ | skip)
  have q2 := eq_false c2
  by_cases c3 : k = 3
  · have q3 := eq_true c3
    have q4 : ((l.length : Int) = 3) = False := eq_false (fun q => h3 ⟨c3, by omega⟩)
    repeat' (first | (with_reducible first | refine pa ?_ | refine pb ?_ | refine pc ?_ | refine nxt_n ?_ | refine nxt_e ?_ | refine nxt_r ?_ | refine blk_n ?_ | refine blk_r ?_ | refine blk_hit ?_ | refine blk_miss (by rfl) ?_ | refine pd ?_ | refine pe ?_ | refine pf ?_ | refine pg ?_ | apply And.intro) | (refine hK _ ?_; clear hK K hΘ Θ) | (with_reducible first | refine cw1 ?_ | refine cw2 ?_ | exact cw3 | exact cw4) | ((with_reducible first | refine cw5 (fun gg => ?_) | refine cw6 (fun gg => ?_) | refine cw7 (fun gg => ?_)); try simp only [gg]) | refine cs1 hG rfl ?_ ?_ | refine cs2 hG rfl ?_ ?_ | ((first | refine kg (hS _ _) rfl hΘ ?_ | refine kg (hN _ _) rfl hΘ ?_ | refine kg (R15Good_sp _ hk0 _ _) rfl hΘ ?_ | refine rga hG (by kernel_rfl) (fun Θ K hΘ hK => ?_) | refine rgb hG (by kernel_rfl) (fun Θ K hΘ hK => ?_)); simp (maxSteps := 2000000) only [go_sem, seval, reduceCtorEq, List.append_eq, f0, f2, g0, q1, q2, q3, q4, hE, hEk, hkn]) | ((first | refine Post.splitN (fun gg => ?_) (fun gg => ?_) | refine Post.split (fun gg => ?_) (fun gg => ?_)) <;> simp (maxSteps := 2000000) only [go_sem, seval, reduceCtorEq, List.append_eq, gg, f0, f2, g0, q1, q2, q3, q4, hE, hEk, hkn]) | (refine finR (by simp only [go_sem, seval, reduceCtorEq, List.append_eq, f0, f2, g0, q1, q2, q3, q4, hE, hEk, hkn]; exact rfl) ?_; simp only [go_sem, seval, reduceCtorEq, List.append_eq, f0, f2, g0, q1, q2, q3, q4, hE, hEk, hkn]) | refine updL hM ?_ (by omega) | (with_reducible exact fun _ _ => rfl))
    all_goals (first | omega | (simp only [decide_eq_true_eq, decide_eq_false_iff_not] at *; omega) | (simp only [List.length_append, List.length_cons, List.length_nil] <;> omega) | exact one_bv _ | exact one_sv _ | skip)
  have q3 := eq_false c3
  repeat' (first | (with_reducible first | refine pa ?_ | refine pb ?_ | refine pc ?_ | refine nxt_n ?_ | refine nxt_e ?_ | refine nxt_r ?_ | refine blk_n ?_ | refine blk_r ?_ | refine blk_hit ?_ | refine blk_miss (by rfl) ?_ | refine pd ?_ | refine pe ?_ | refine pf ?_ | refine pg ?_ | apply And.intro) | (refine hK _ ?_; clear hK K hΘ Θ) | (with_reducible first | refine cw1 ?_ | refine cw2 ?_ | exact cw3 | exact cw4) | ((with_reducible first | refine cw5 (fun gg => ?_) | refine cw6 (fun gg => ?_) | refine cw7 (fun gg => ?_)); try simp only [gg]) | refine cs1 hG rfl ?_ ?_ | refine cs2 hG rfl ?_ ?_ | ((first | refine kg (hS _ _) rfl hΘ ?_ | refine kg (hN _ _) rfl hΘ ?_ | refine kg (R15Good_sp _ hk0 _ _) rfl hΘ ?_ | refine rga hG (by kernel_rfl) (fun Θ K hΘ hK => ?_) | refine rgb hG (by kernel_rfl) (fun Θ K hΘ hK => ?_)); simp (maxSteps := 2000000) only [go_sem, seval, reduceCtorEq, List.append_eq, f0, f2, g0, q1, q2, q3, hE, hEk, hkn]) | ((first | refine Post.splitN (fun gg => ?_) (fun gg => ?_) | refine Post.split (fun gg => ?_) (fun gg => ?_)) <;> simp (maxSteps := 2000000) only [go_sem, seval, reduceCtorEq, List.append_eq, gg, f0, f2, g0, q1, q2, q3, hE, hEk, hkn]) | (refine finR (by simp only [go_sem, seval, reduceCtorEq, List.append_eq, f0, f2, g0, q1, q2, q3, hE, hEk, hkn]; exact rfl) ?_; simp only [go_sem, seval, reduceCtorEq, List.append_eq, f0, f2, g0, q1, q2, q3, hE, hEk, hkn]) | refine updL hM ?_ (by omega) | (with_reducible exact fun _ _ => rfl))
  all_goals (first | omega | (simp only [decide_eq_true_eq, decide_eq_false_iff_not] at *; omega) | (simp only [List.length_append, List.length_cons, List.length_nil] <;> omega) | exact one_bv _ | exact one_sv _ | skip)
end Go.VL
