/- Part TMRd2 of the proof: made for this claim. -/
import Derived.Test.YtljfmgfokifooaaTMRd
set_option linter.unusedVariables false
set_option linter.unusedSimpArgs false
set_option maxRecDepth 100000
set_option maxHeartbeats 8000000
open Go.RowKit
namespace Go.VL
open Go.Proofs
theorem next_sp (b : Nat) (s : List UInt8) (l : List (List UInt8)) (f : Bool) (M : Mem) (mn : Nat) (hb : M b = some (rdrC (s :: l) f)) : Sp Try.prog GL 39 [.bp b 0] M mn (fun r m k => r = .flat (.string (bs s)) ∧ m = upd M b (some (rdrC l f)) ∧ k = mn) := by
  unfold rdrC at *
  have hl : (s :: l).length - 1 = l.length := by simp
  have ht : ∀ x : V, List.drop 1 (List.take (l.length + 1) (x :: sv l)) = sv l := fun x => by rw [List.take_of_length_le (by simp [sv_length])]; rfl
  refine fnP (C := kc 19 [] []) (rs := [.tmp 2]) envOk Try.func39 (by kernel_rfl) rfl rfl rfl rfl rfl rfl ?_
  intro E hG hM
  repeat' (first | (with_reducible first | refine pa ?_ | refine pb ?_ | refine pc ?_ | refine nxt_n ?_ | refine nxt_e ?_ | refine nxt_r ?_ | refine blk_n ?_ | refine blk_r ?_ | refine blk_hit ?_ | refine blk_miss (by rfl) ?_ | refine pd ?_ | refine pe ?_ | refine pf ?_ | refine pg ?_ | apply And.intro) | (refine hK _ ?_; clear hK K hΘ Θ) | (with_reducible first | refine cw1 ?_ | refine cw2 ?_ | exact cw3 | exact cw4) | ((with_reducible first | refine cw5 (fun gg => ?_) | refine cw6 (fun gg => ?_) | refine cw7 (fun gg => ?_)); try simp only [gg]) | refine cs1 hG rfl ?_ ?_ | refine cs2 hG rfl ?_ ?_ | ((first | refine rga hG (by kernel_rfl) (fun Θ K hΘ hK => ?_) | refine rgb hG (by kernel_rfl) (fun Θ K hΘ hK => ?_)); simp (maxSteps := 2000000) only [go_sem, seval, reduceCtorEq, hb, sv_c, hl, ht]) | ((first | refine Post.splitN (fun gg => ?_) (fun gg => ?_) | refine Post.split (fun gg => ?_) (fun gg => ?_)) <;> simp (maxSteps := 2000000) only [go_sem, seval, reduceCtorEq, gg, hb, sv_c, hl, ht]) | (refine finR (by simp only [go_sem, seval, reduceCtorEq, hb, sv_c, hl, ht]; exact rfl) ?_; simp only [go_sem, seval, reduceCtorEq, hb, sv_c, hl, ht]) | refine updL hM ?_ (by omega) | (with_reducible exact fun _ _ => rfl))
  all_goals (first | omega | (simp only [decide_eq_true_eq, decide_eq_false_iff_not] at *; omega) | (simp only [List.length_append, List.length_cons, List.length_nil] <;> omega) | exact one_bv _ | exact one_sv _ | skip)
theorem num_sp (b : Nat) (s : List UInt8) (l : List (List UInt8)) (f : Bool) (M : Mem) (mn : Nat) (hb : M b = some (rdrC (s :: l) f)) : Sp Try.prog GL 37 [.bp b 0] M mn (fun r m k => r = .flat (.int .i64 (wholeN s)) ∧ m = upd M b (some (rdrC l (f || !wholeOk s))) ∧ k = mn) := by
  refine fnW (C := kc 23 [] []) (rs := [.tmp 2]) (cs0 := rdrC l (or f (!wholeOk s))) envOk Try.func37 (by kernel_rfl) rfl rfl rfl rfl rfl rfl (Low.flat _) (by rw [hb]; exact fun e => nomatch e) (rdrC_low _ _) ?_
  intro E hG hM
  have hbn : b < mn := Nat.lt_of_not_le fun e => by rw [hM b e] at hb; cases hb
  have hbs : decide ((s.length : Int) > 262144) = isBig s := rfl
  have hws : ((rNum s (isBig s)).1 : Int) = wholeN s := rfl
  have hws2 : decide (rEnd (rNum s (isBig s)).2.1 (rNum s (isBig s)).2.2 = 0) = wholeOk s := rfl
  have hne : b ≠ mn := by omega
  have u1 : ∀ (m : Mem) x, upd m mn x b = m b := fun m x => upd_ne _ _ hne
  repeat' (first | (with_reducible first | refine pa ?_ | refine pb ?_ | refine pc ?_ | refine nxt_n ?_ | refine nxt_e ?_ | refine nxt_r ?_ | refine blk_n ?_ | refine blk_r ?_ | refine blk_hit ?_ | refine blk_miss (by rfl) ?_ | refine pd ?_ | refine pe ?_ | refine pf ?_ | refine pg ?_ | apply And.intro) | (refine hK _ ?_; clear hK K hΘ Θ) | (with_reducible first | refine cw1 ?_ | refine cw2 ?_ | exact cw3 | exact cw4) | ((with_reducible first | refine cw5 (fun gg => ?_) | refine cw6 (fun gg => ?_) | refine cw7 (fun gg => ?_)); try simp only [gg]) | refine cs1 hG rfl ?_ ?_ | refine cs2 hG rfl ?_ ?_ | ((first | refine kg (next_sp b s l f _ _ hb) rfl hΘ ?_ | refine kg (Open_sp s _ _) rfl hΘ ?_ | refine kg (RdNum_sp mn s (isBig s) _ _ (by simp [upd, rd])) rfl hΘ ?_ | refine kg (End_sp mn (rNum s (isBig s)).2.1 (rNum s (isBig s)).2.2 _ _ (by simp [upd, rd])) rfl hΘ ?_ | refine rga hG (by kernel_rfl) (fun Θ K hΘ hK => ?_) | refine rgb hG (by kernel_rfl) (fun Θ K hΘ hK => ?_)); simp (maxSteps := 2000000) only [go_sem, seval, reduceCtorEq, hbs, hws, rd, u1, rdrC]) | ((first | refine Post.splitN (fun gg => ?_) (fun gg => ?_) | refine Post.split (fun gg => ?_) (fun gg => ?_)) <;> simp (maxSteps := 2000000) only [go_sem, seval, reduceCtorEq, gg, hbs, hws, rd, u1, rdrC]) | (refine finR (by simp only [go_sem, seval, reduceCtorEq, hbs, hws, rd, u1, rdrC]; exact rfl) ?_; simp only [go_sem, seval, reduceCtorEq, hbs, hws, rd, u1, rdrC]) | refine updL hM ?_ (by omega) | (with_reducible exact fun _ _ => rfl))
  all_goals (first | omega | (simp only [decide_eq_true_eq, decide_eq_false_iff_not] at *; omega) | (simp only [List.length_append, List.length_cons, List.length_nil] <;> omega) | exact one_bv _ | exact one_sv _ | skip)
  all_goals
    subst gg
    simp only [Bool.true_or, Bool.false_or, ← hws2]
    exact updW4 hM
theorem id_sp (b : Nat) (s : List UInt8) (l : List (List UInt8)) (f : Bool) (x : Id32) (hx : x.1 = s ∨ (s.length ≠ 32 ∧ x = z32)) (M : Mem) (mn : Nat) (hb : M b = some (rdrC (s :: l) f)) : Sp Try.prog GL 38 [.bp b 0] M mn (fun r m k => r = .agg (bv x.1) ∧ m = upd M b (some (rdrC l (or f (!decide (s.length = 32))))) ∧ k = mn) := by
  refine fnW (C := kc 17 [] []) (rs := [.cell 2 23]) (cs0 := rdrC l (or f (!decide (s.length = 32)))) envOk Try.func38 (by kernel_rfl) rfl rfl rfl rfl rfl rfl (lowAgg (FlatS.bv _)) (by rw [hb]; exact fun e => nomatch e) (rdrC_low _ _) ?_
  intro E hG hM
  have hbn : b < mn := Nat.lt_of_not_le fun e => by rw [hM b e] at hb; cases hb
  have hne : b ≠ mn := by omega
  have u1 : ∀ (m : Mem) x, upd m mn x b = m b := fun m x => upd_ne _ _ hne
  have u2 : ∀ (m : Mem) x, upd m b x mn = m mn := fun m x => upd_ne _ _ hne.symm
  have hb' : ∀ z, upd M mn z b = some (rdrC (s :: l) f) := fun z => by rw [u1]; exact hb
  have tb := take_bv32 x
  have hx32 := x.2
  rcases hx with rfl | ⟨h, rfl⟩
  · have q1 : (((32 : Nat) : Int) = 32) = True := eq_true rfl
    repeat' (first | (with_reducible first | refine pa ?_ | refine pb ?_ | refine pc ?_ | refine nxt_n ?_ | refine nxt_e ?_ | refine nxt_r ?_ | refine blk_n ?_ | refine blk_r ?_ | refine blk_hit ?_ | refine blk_miss (by rfl) ?_ | refine pd ?_ | refine pe ?_ | refine pf ?_ | refine pg ?_ | apply And.intro) | (refine hK _ ?_; clear hK K hΘ Θ) | (with_reducible first | refine cw1 ?_ | refine cw2 ?_ | exact cw3 | exact cw4) | ((with_reducible first | refine cw5 (fun gg => ?_) | refine cw6 (fun gg => ?_) | refine cw7 (fun gg => ?_)); try simp only [gg]) | refine cs1 hG rfl ?_ ?_ | refine cs2 hG rfl ?_ ?_ | ((first | refine kg (next_sp b x.1 l f _ _ (hb' _)) rfl hΘ ?_ | refine rga hG (by kernel_rfl) (fun Θ K hΘ hK => ?_) | refine rgb hG (by kernel_rfl) (fun Θ K hΘ hK => ?_)); simp (maxSteps := 2000000) only [go_sem, seval, reduceCtorEq, q1, rdrC, u1, u2, hx32, tb]) | ((first | refine Post.splitN (fun gg => ?_) (fun gg => ?_) | refine Post.split (fun gg => ?_) (fun gg => ?_)) <;> simp (maxSteps := 2000000) only [go_sem, seval, reduceCtorEq, gg, q1, rdrC, u1, u2, hx32, tb]) | (refine finR (by simp only [go_sem, seval, reduceCtorEq, q1, rdrC, u1, u2, hx32, tb]; exact rfl) ?_; simp only [go_sem, seval, reduceCtorEq, q1, rdrC, u1, u2, hx32, tb]) | refine updL hM ?_ (by omega) | (with_reducible exact fun _ _ => rfl))
    all_goals (first | omega | (simp only [decide_eq_true_eq, decide_eq_false_iff_not] at *; omega) | (simp only [List.length_append, List.length_cons, List.length_nil] <;> omega) | exact one_bv _ | exact one_sv _ | skip)
    rw [upd_swap hne]
    refine updW2 fun b' h1 h2 => ?_
    have hlt : b' < mn := Nat.lt_of_not_le fun q => h2 (hM b' q)
    repeat rw [upd_ne _ _ (by omega)]
  · have q1 : ((s.length : Int) = 32) = False := eq_false (by omega)
    repeat' (first | (with_reducible first | refine pa ?_ | refine pb ?_ | refine pc ?_ | refine nxt_n ?_ | refine nxt_e ?_ | refine nxt_r ?_ | refine blk_n ?_ | refine blk_r ?_ | refine blk_hit ?_ | refine blk_miss (by rfl) ?_ | refine pd ?_ | refine pe ?_ | refine pf ?_ | refine pg ?_ | apply And.intro) | (refine hK _ ?_; clear hK K hΘ Θ) | (with_reducible first | refine cw1 ?_ | refine cw2 ?_ | exact cw3 | exact cw4) | ((with_reducible first | refine cw5 (fun gg => ?_) | refine cw6 (fun gg => ?_) | refine cw7 (fun gg => ?_)); try simp only [gg]) | refine cs1 hG rfl ?_ ?_ | refine cs2 hG rfl ?_ ?_ | ((first | refine kg (next_sp b s l f _ _ (hb' _)) rfl hΘ ?_ | refine rga hG (by kernel_rfl) (fun Θ K hΘ hK => ?_) | refine rgb hG (by kernel_rfl) (fun Θ K hΘ hK => ?_)); simp (maxSteps := 2000000) only [go_sem, seval, reduceCtorEq, q1, rdrC, u1, u2, hx32, tb]) | ((first | refine Post.splitN (fun gg => ?_) (fun gg => ?_) | refine Post.split (fun gg => ?_) (fun gg => ?_)) <;> simp (maxSteps := 2000000) only [go_sem, seval, reduceCtorEq, gg, q1, rdrC, u1, u2, hx32, tb]) | (refine finR (by simp only [go_sem, seval, reduceCtorEq, q1, rdrC, u1, u2, hx32, tb]; exact rfl) ?_; simp only [go_sem, seval, reduceCtorEq, q1, rdrC, u1, u2, hx32, tb]) | refine updL hM ?_ (by omega) | (with_reducible exact fun _ _ => rfl))
    all_goals (first | omega | (simp only [decide_eq_true_eq, decide_eq_false_iff_not] at *; omega) | (simp only [List.length_append, List.length_cons, List.length_nil] <;> omega) | exact one_bv _ | exact one_sv _ | skip)
    have hd : decide (s.length = 32) = false := decide_eq_false h
    simp only [hd, Bool.not_false, Bool.or_true]
    rw [upd_swap hne]
    refine updW2 fun b' h1 h2 => ?_
    have hlt : b' < mn := Nat.lt_of_not_le fun q => h2 (hM b' q)
    repeat rw [upd_ne _ _ (by omega)]
theorem auth_sp (b : Nat) (s : List UInt8) (l : List (List UInt8)) (f : Bool) (M : Mem) (mn : Nat) (hb : M b = some (rdrC l f)) : Sp Try.prog GL 40 [.bp b 0, .flat (.string (bs s))] M mn (fun r m k => r = .agg (rdAu s).1.c ∧ m = upd M b (some (rdrC l (or f (!(rdAu s).2)))) ∧ k = mn) := by
  refine fnW (C := kc 24 [] []) (rs := [.cell 4 25]) (cs0 := rdrC l (or f (!(rdAu s).2))) envOk Try.func40 (by kernel_rfl) rfl rfl rfl rfl rfl rfl (lowAgg (Au.flat _)) (by rw [hb]; exact fun e => nomatch e) (rdrC_low _ _) ?_
  intro E hG hM
  have hbn : b < mn := Nat.lt_of_not_le fun e => by rw [hM b e] at hb; cases hb
  have hne : b ≠ mn := by omega
  have u1 : ∀ (m : Mem) x, upd m mn x b = m b := fun m x => upd_ne _ _ hne
  have u3 : ∀ (m : Mem) x, upd m (mn + 1) x b = m b := fun m x => upd_ne _ _ (by omega)
  have u2 : ∀ (m : Mem) x, upd m b x mn = m mn := fun m x => upd_ne _ _ hne.symm
  have u4 : ∀ (m : Mem) x, upd m b x (mn + 1) = m (mn + 1) := fun m x => upd_ne _ _ (by omega)
  have u5 : ∀ (m : Mem) x, upd m (mn + 1) x mn = m mn := fun m x => upd_ne _ _ (by omega)
  have e4 : ((if (rdAu s).2 = true then (0 : Int) else 4) = 0) = ((rdAu s).2 = true) := by
    cases (rdAu s).2 <;> simp
  repeat' (first | (with_reducible first | refine pa ?_ | refine pb ?_ | refine pc ?_ | refine nxt_n ?_ | refine nxt_e ?_ | refine nxt_r ?_ | refine blk_n ?_ | refine blk_r ?_ | refine blk_hit ?_ | refine blk_miss (by rfl) ?_ | refine pd ?_ | refine pe ?_ | refine pf ?_ | refine pg ?_ | apply And.intro) | (refine hK _ ?_; clear hK K hΘ Θ) | (with_reducible first | refine cw1 ?_ | refine cw2 ?_ | exact cw3 | exact cw4) | ((with_reducible first | refine cw5 (fun gg => ?_) | refine cw6 (fun gg => ?_) | refine cw7 (fun gg => ?_)); try simp only [gg]) | refine cs1 hG rfl ?_ ?_ | refine cs2 hG rfl ?_ ?_ | ((first | refine kg (ReadAuth_sp s _ _) rfl hΘ ?_ | refine rga hG (by kernel_rfl) (fun Θ K hΘ hK => ?_) | refine rgb hG (by kernel_rfl) (fun Θ K hΘ hK => ?_)); simp (maxSteps := 2000000) only [go_sem, seval, reduceCtorEq, rdrC, u1, u2, u3, u4, u5, hb, e4]) | ((first | refine Post.splitN (fun gg => ?_) (fun gg => ?_) | refine Post.split (fun gg => ?_) (fun gg => ?_)) <;> simp (maxSteps := 2000000) only [go_sem, seval, reduceCtorEq, gg, rdrC, u1, u2, u3, u4, u5, hb, e4]) | (refine finR (by simp only [go_sem, seval, reduceCtorEq, rdrC, u1, u2, u3, u4, u5, hb, e4]; exact rfl) ?_; simp only [go_sem, seval, reduceCtorEq, rdrC, u1, u2, u3, u4, u5, hb, e4]) | refine updL hM ?_ (by omega) | (with_reducible exact fun _ _ => rfl))
  all_goals (first | omega | (simp only [decide_eq_true_eq, decide_eq_false_iff_not] at *; omega) | (simp only [List.length_append, List.length_cons, List.length_nil] <;> omega) | exact one_bv _ | exact one_sv _ | skip)
  all_goals
    subst gg
    simp only [Bool.true_or, Bool.false_or, Bool.decide_eq_true]
    rw [upd_swap hne]
    refine updW2 fun b' h1 h2 => ?_
    have hlt : b' < mn := Nat.lt_of_not_le fun q => h2 (hM b' q)
    repeat rw [upd_ne _ _ (by omega)]
theorem texts_sp (b : Nat) (s : List UInt8) (l : List (List UInt8)) (f : Bool) (M : Mem) (mn : Nat) (hb : M b = some (rdrC (s :: l) f)) : Sp Try.prog GL 41 [.bp b 0] M mn (fun r m k => r = .sl false 1 (sR s).length (sv (sR s)) ∧ m = upd M b (some (rdrC l (or f (!decide (sE s = 0))))) ∧ k = mn) := by
  refine fnW (C := kc 23 [] []) (rs := [.tmp 2]) (cs0 := rdrC l (or f (!decide (sE s = 0)))) envOk Try.func41 (by kernel_rfl) rfl rfl rfl rfl rfl rfl (lowSl (FlatS.sv _)) (by rw [hb]; exact fun e => nomatch e) (rdrC_low _ _) ?_
  intro E hG hM
  repeat' (first | (with_reducible first | refine pa ?_ | refine pb ?_ | refine pc ?_ | refine nxt_n ?_ | refine nxt_e ?_ | refine nxt_r ?_ | refine blk_n ?_ | refine blk_r ?_ | refine blk_hit ?_ | refine blk_miss (by rfl) ?_ | refine pd ?_ | refine pe ?_ | refine pf ?_ | refine pg ?_ | apply And.intro) | (refine hK _ ?_; clear hK K hΘ Θ) | (with_reducible first | refine cw1 ?_ | refine cw2 ?_ | exact cw3 | exact cw4) | ((with_reducible first | refine cw5 (fun gg => ?_) | refine cw6 (fun gg => ?_) | refine cw7 (fun gg => ?_)); try simp only [gg]) | refine cs1 hG rfl ?_ ?_ | refine cs2 hG rfl ?_ ?_ | ((first | refine kg (next_sp b s l f _ _ hb) rfl hΘ ?_ | refine kg (Split_sp s _ _) rfl hΘ ?_ | refine rga hG (by kernel_rfl) (fun Θ K hΘ hK => ?_) | refine rgb hG (by kernel_rfl) (fun Θ K hΘ hK => ?_)); simp (maxSteps := 2000000) only [go_sem, seval, reduceCtorEq, rdrC]) | ((first | refine Post.splitN (fun gg => ?_) (fun gg => ?_) | refine Post.split (fun gg => ?_) (fun gg => ?_)) <;> simp (maxSteps := 2000000) only [go_sem, seval, reduceCtorEq, gg, rdrC]) | (refine finR (by simp only [go_sem, seval, reduceCtorEq, rdrC]; exact rfl) ?_; simp only [go_sem, seval, reduceCtorEq, rdrC]) | refine updL hM ?_ (by omega) | (with_reducible exact fun _ _ => rfl))
  all_goals (first | omega | (simp only [decide_eq_true_eq, decide_eq_false_iff_not] at *; omega) | (simp only [List.length_append, List.length_cons, List.length_nil] <;> omega) | exact one_bv _ | exact one_sv _ | skip)
  all_goals
    subst gg
    simp only [Bool.true_or, Bool.false_or]
    intros
    first | rfl | trivial
end Go.VL
