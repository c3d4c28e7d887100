/- Part TRd of the proof: made for this claim. -/
import Derived.Test.YtljfmgfokifooaaTPk
import Derived.Test.YtljfmgfokifooaaPackRead
set_option linter.unusedVariables false
set_option linter.unusedSimpArgs false
set_option maxRecDepth 100000
set_option maxHeartbeats 8000000
open Go.RowKit
namespace Go.VL
open Go.Proofs
theorem Open_sp (s : List UInt8) (M : Mem) (mn : Nat) : Sp Try.prog GL 57 [.flat (.string (bs s))] M mn (fun r m k => r = .bp mn 0 ∧ m = upd M mn (rd s (decide ((s.length : Int) > 262144))) ∧ k = mn + 1) := by
  refine fnP (C := kc 9 [] []) (rs := [.tmp 2]) envOk Try.func57 (by kernel_rfl) rfl rfl rfl rfl rfl rfl ?_
  intro E hG hM
  repeat' (first | (with_reducible first | refine pa ?_ | refine pb ?_ | refine pc ?_ | refine nxt_n ?_ | refine nxt_e ?_ | refine nxt_r ?_ | refine blk_n ?_ | refine blk_r ?_ | refine blk_hit ?_ | refine blk_miss (by rfl) ?_ | refine pd ?_ | refine pe ?_ | refine pf ?_ | refine pg ?_ | apply And.intro) | (refine hK _ ?_; clear hK K hΘ Θ) | (with_reducible first | refine cw1 ?_ | refine cw2 ?_ | exact cw3 | exact cw4) | ((with_reducible first | refine cw5 (fun gg => ?_) | refine cw6 (fun gg => ?_) | refine cw7 (fun gg => ?_)); try simp only [gg]) | refine cs1 hG rfl ?_ ?_ | refine cs2 hG rfl ?_ ?_ | ((first | refine rga hG (by kernel_rfl) (fun Θ K hΘ hK => ?_) | refine rgb hG (by kernel_rfl) (fun Θ K hΘ hK => ?_)); simp (maxSteps := 2000000) only [go_sem, seval, reduceCtorEq]) | ((first | refine Post.splitN (fun gg => ?_) (fun gg => ?_) | refine Post.split (fun gg => ?_) (fun gg => ?_)) <;> simp (maxSteps := 2000000) only [go_sem, seval, reduceCtorEq, gg]) | (refine finR (by simp only [go_sem, seval, reduceCtorEq]; exact rfl) ?_; simp only [go_sem, seval, reduceCtorEq]) | refine updL hM ?_ (by omega) | (with_reducible exact fun _ _ => rfl))
  all_goals (first | omega | (simp only [decide_eq_true_eq, decide_eq_false_iff_not] at *; omega) | (simp only [List.length_append, List.length_cons, List.length_nil] <;> omega) | exact one_bv _ | exact one_sv _ | skip)
  all_goals rfl
theorem fail_sp (b : Nat) (s : List UInt8) (f : Bool) (M : Mem) (mn : Nat) (hb : M b = rd s f) : Sp Try.prog GL 68 [.bp b 0] M mn (fun r m k => r = .tup [] ∧ m = upd M b (rd [] true) ∧ k = mn) := by
  have hb' : M b = some [.flat (.string (bs s)), .flat (.bool f)] := hb
  refine fnP (C := kc 8 [] []) (rs := []) envOk Try.func68 (by kernel_rfl) rfl rfl rfl rfl rfl rfl ?_
  intro E hG hM
  repeat' (first | (with_reducible first | refine pa ?_ | refine pb ?_ | refine pc ?_ | refine nxt_n ?_ | refine nxt_e ?_ | refine nxt_r ?_ | refine blk_n ?_ | refine blk_r ?_ | refine blk_hit ?_ | refine blk_miss (by rfl) ?_ | refine pd ?_ | refine pe ?_ | refine pf ?_ | refine pg ?_ | apply And.intro) | (refine hK _ ?_; clear hK K hΘ Θ) | (with_reducible first | refine cw1 ?_ | refine cw2 ?_ | exact cw3 | exact cw4) | ((with_reducible first | refine cw5 (fun gg => ?_) | refine cw6 (fun gg => ?_) | refine cw7 (fun gg => ?_)); try simp only [gg]) | refine cs1 hG rfl ?_ ?_ | refine cs2 hG rfl ?_ ?_ | ((first | refine rga hG (by kernel_rfl) (fun Θ K hΘ hK => ?_) | refine rgb hG (by kernel_rfl) (fun Θ K hΘ hK => ?_)); simp (maxSteps := 2000000) only [go_sem, seval, reduceCtorEq, hb', rd]) | ((first | refine Post.splitN (fun gg => ?_) (fun gg => ?_) | refine Post.split (fun gg => ?_) (fun gg => ?_)) <;> simp (maxSteps := 2000000) only [go_sem, seval, reduceCtorEq, gg, hb', rd]) | ((first | refine finR (by simp only [go_sem, seval, reduceCtorEq, hb', rd]; exact rfl) ?_ | refine finN (by simp only [go_sem, seval, reduceCtorEq, hb', rd]; exact rfl) ?_); simp only [go_sem, seval, reduceCtorEq, hb', rd]) | refine updL hM ?_ (by omega) | (with_reducible exact fun _ _ => rfl))
  all_goals (first | omega | (simp only [decide_eq_true_eq, decide_eq_false_iff_not] at *; omega) | (simp only [List.length_append, List.length_cons, List.length_nil] <;> omega) | exact one_bv _ | exact one_sv _ | skip)
theorem take_sp (b : Nat) (s : List UInt8) (f : Bool) (n : Nat) (M : Mem) (mn : Nat) (hb : M b = rd s f) : Sp Try.prog GL 70 [.bp b 0, .flat (.int .i64 n)] M mn (fun r m k => r = .flat (.string (bs (rTake n s f).1)) ∧ m = upd M b (rd (rTake n s f).2.1 (rTake n s f).2.2) ∧ k = mn) := by
  have hb' : M b = some [.flat (.string (bs s)), .flat (.bool f)] := hb
  refine fnP (C := kc 37 [] []) (rs := [.tmp 4]) envOk Try.func70 (by kernel_rfl) rfl rfl rfl rfl rfl rfl ?_
  intro E hG hM
  cases f
  · by_cases hn : s.length < n
    · have f1 : ((n : Int) > s.length) = True := eq_true (by omega)
      repeat' (first | (with_reducible first | refine pa ?_ | refine pb ?_ | refine pc ?_ | refine nxt_n ?_ | refine nxt_e ?_ | refine nxt_r ?_ | refine blk_n ?_ | refine blk_r ?_ | refine blk_hit ?_ | refine blk_miss (by rfl) ?_ | refine pd ?_ | refine pe ?_ | refine pf ?_ | refine pg ?_ | apply And.intro) | (refine hK _ ?_; clear hK K hΘ Θ) | (with_reducible first | refine cw1 ?_ | refine cw2 ?_ | exact cw3 | exact cw4) | ((with_reducible first | refine cw5 (fun gg => ?_) | refine cw6 (fun gg => ?_) | refine cw7 (fun gg => ?_)); try simp only [gg]) | refine cs1 hG rfl ?_ ?_ | refine cs2 hG rfl ?_ ?_ | ((first | refine kg (fail_sp b s false _ _ hb) rfl hΘ ?_ | refine rga hG (by kernel_rfl) (fun Θ K hΘ hK => ?_) | refine rgb hG (by kernel_rfl) (fun Θ K hΘ hK => ?_)); simp (maxSteps := 2000000) only [go_sem, seval, reduceCtorEq, hb', f1, rTake, hn, rd]) | ((first | refine Post.splitN (fun gg => ?_) (fun gg => ?_) | refine Post.split (fun gg => ?_) (fun gg => ?_)) <;> simp (maxSteps := 2000000) only [go_sem, seval, reduceCtorEq, gg, hb', f1, rTake, hn, rd]) | (refine finR (by simp only [go_sem, seval, reduceCtorEq, hb', f1, rTake, hn, rd]; exact rfl) ?_; simp only [go_sem, seval, reduceCtorEq, hb', f1, rTake, hn, rd]) | refine updL hM ?_ (by omega) | (with_reducible exact fun _ _ => rfl))
      all_goals (first | omega | (simp only [decide_eq_true_eq, decide_eq_false_iff_not] at *; omega) | (simp only [List.length_append, List.length_cons, List.length_nil] <;> omega) | exact one_bv _ | exact one_sv _ | skip)
    · have f1 : ((n : Int) > s.length) = False := eq_false (by omega)
      have hs2 : List.take s.length s = s := List.take_length
      repeat' (first | (with_reducible first | refine pa ?_ | refine pb ?_ | refine pc ?_ | refine nxt_n ?_ | refine nxt_e ?_ | refine nxt_r ?_ | refine blk_n ?_ | refine blk_r ?_ | refine blk_hit ?_ | refine blk_miss (by rfl) ?_ | refine pd ?_ | refine pe ?_ | refine pf ?_ | refine pg ?_ | apply And.intro) | (refine hK _ ?_; clear hK K hΘ Θ) | (with_reducible first | refine cw1 ?_ | refine cw2 ?_ | exact cw3 | exact cw4) | ((with_reducible first | refine cw5 (fun gg => ?_) | refine cw6 (fun gg => ?_) | refine cw7 (fun gg => ?_)); try simp only [gg]) | refine cs1 hG rfl ?_ ?_ | refine cs2 hG rfl ?_ ?_ | ((first | refine rga hG (by kernel_rfl) (fun Θ K hΘ hK => ?_) | refine rgb hG (by kernel_rfl) (fun Θ K hΘ hK => ?_)); simp (maxSteps := 2000000) only [go_sem, seval, reduceCtorEq, hb', f1, rTake, hn, rd, hs2]) | ((first | refine Post.splitN (fun gg => ?_) (fun gg => ?_) | refine Post.split (fun gg => ?_) (fun gg => ?_)) <;> simp (maxSteps := 2000000) only [go_sem, seval, reduceCtorEq, gg, hb', f1, rTake, hn, rd, hs2]) | (refine finR (by simp only [go_sem, seval, reduceCtorEq, hb', f1, rTake, hn, rd, hs2]; exact rfl) ?_; simp only [go_sem, seval, reduceCtorEq, hb', f1, rTake, hn, rd, hs2]) | refine updL hM ?_ (by omega) | (with_reducible exact fun _ _ => rfl))
      all_goals (first | omega | (simp only [decide_eq_true_eq, decide_eq_false_iff_not] at *; omega) | (simp only [List.length_append, List.length_cons, List.length_nil] <;> omega) | exact one_bv _ | exact one_sv _ | skip)
  · skip
    repeat' (first | (with_reducible first | refine pa ?_ | refine pb ?_ | refine pc ?_ | refine nxt_n ?_ | refine nxt_e ?_ | refine nxt_r ?_ | refine blk_n ?_ | refine blk_r ?_ | refine blk_hit ?_ | refine blk_miss (by rfl) ?_ | refine pd ?_ | refine pe ?_ | refine pf ?_ | refine pg ?_ | apply And.intro) | (refine hK _ ?_; clear hK K hΘ Θ) | (with_reducible first | refine cw1 ?_ | refine cw2 ?_ | exact cw3 | exact cw4) | ((with_reducible first | refine cw5 (fun gg => ?_) | refine cw6 (fun gg => ?_) | refine cw7 (fun gg => ?_)); try simp only [gg]) | refine cs1 hG rfl ?_ ?_ | refine cs2 hG rfl ?_ ?_ | ((first | refine kg (fail_sp b s true _ _ hb) rfl hΘ ?_ | refine rga hG (by kernel_rfl) (fun Θ K hΘ hK => ?_) | refine rgb hG (by kernel_rfl) (fun Θ K hΘ hK => ?_)); simp (maxSteps := 2000000) only [go_sem, seval, reduceCtorEq, hb', rTake, rd]) | ((first | refine Post.splitN (fun gg => ?_) (fun gg => ?_) | refine Post.split (fun gg => ?_) (fun gg => ?_)) <;> simp (maxSteps := 2000000) only [go_sem, seval, reduceCtorEq, gg, hb', rTake, rd]) | (refine finR (by simp only [go_sem, seval, reduceCtorEq, hb', rTake, rd]; exact rfl) ?_; simp only [go_sem, seval, reduceCtorEq, hb', rTake, rd]) | refine updL hM ?_ (by omega) | (with_reducible exact fun _ _ => rfl))
    all_goals (first | omega | (simp only [decide_eq_true_eq, decide_eq_false_iff_not] at *; omega) | (simp only [List.length_append, List.length_cons, List.length_nil] <;> omega) | exact one_bv _ | exact one_sv _ | skip)
theorem take_at {b : Nat} {s : List UInt8} {f : Bool} {n : Nat} {a : List UInt8} {s1 : List UInt8} {f1 : Bool} (hA : rTake n s f = (a, s1, f1)) (M : Mem) (mn : Nat) (hb : M b = rd s f) : Sp Try.prog GL 70 [.bp b 0, .flat (.int .i64 n)] M mn (fun r m k => r = .flat (.string (bs a)) ∧ m = upd M b (rd s1 f1) ∧ k = mn) := by
  have := take_sp b s f n M mn hb
  rw [hA] at this; exact this
theorem RdNum_sp (b : Nat) (s : List UInt8) (f : Bool) (M : Mem) (mn : Nat) (hb : M b = rd s f) : Sp Try.prog GL 60 [.bp b 0] M mn (fun r m k => r = .flat (.int .i64 (rNum s f).1) ∧ m = upd M b (rd (rNum s f).2.1 (rNum s f).2.2) ∧ k = mn) := by
  have hb' : M b = some [.flat (.string (bs s)), .flat (.bool f)] := hb
  refine fnP (C := kc 59 [] []) (rs := [.tmp 2]) envOk Try.func60 (by kernel_rfl) rfl rfl rfl rfl rfl rfl ?_
  intro E hG hM
  generalize hA : rTake 1 s f = A
  obtain ⟨a, s1, f1⟩ := A
  cases f1
  · have ha1 : 0 < a.length := by
      unfold rTake at hA
      split at hA
      · simp at hA
      · rename_i hh
        have hl : ¬ s.length < 1 := fun h => hh (.inr h)
        simp only [Prod.mk.injEq] at hA
        obtain ⟨rfl, _⟩ := hA
        rw [List.length_take]; omega
    have ha2 := eq_true ha1
    have hw0 : IntKind.i64.wrap ((a.getD 0 0).toNat : Int) = ((a.getD 0 0).toNat : Int) := wi (by omega) (by have := (a.getD 0 0).toNat_lt; omega)
    generalize hB : rTake (a.getD 0 0).toNat s1 false = B
    obtain ⟨l, s2, f2⟩ := B
    have hspec : rNum s f = if badNum l = true then (0, ([], true)) else (be l, (s2, f2)) := by
      simp only [rNum, hA, hB]
      simp
    by_cases hbad : badNum l = true
    · rw [if_pos hbad] at hspec
      by_cases c1 : 8 < l.length
      · have e1 : ((l.length : Int) > 8) = True := eq_true (by omega)
        repeat' (first | (with_reducible first | refine pa ?_ | refine pb ?_ | refine pc ?_ | refine nxt_n ?_ | refine nxt_e ?_ | refine nxt_r ?_ | refine blk_n ?_ | refine blk_r ?_ | refine blk_hit ?_ | refine blk_miss (by rfl) ?_ | refine pd ?_ | refine pe ?_ | refine pf ?_ | refine pg ?_ | apply And.intro) | (refine hK _ ?_; clear hK K hΘ Θ) | (with_reducible first | refine cw1 ?_ | refine cw2 ?_ | exact cw3 | exact cw4) | ((with_reducible first | refine cw5 (fun gg => ?_) | refine cw6 (fun gg => ?_) | refine cw7 (fun gg => ?_)); try simp only [gg]) | refine cs1 hG rfl ?_ ?_ | refine cs2 hG rfl ?_ ?_ | ((first | refine kg (take_at hA _ _ hb) rfl hΘ ?_ | refine kg (take_at hB _ _ (upd_same _ _ _)) rfl hΘ ?_ | refine kg (fail_sp b s2 f2 _ _ (upd_same _ _ _)) rfl hΘ ?_ | refine rga hG (by kernel_rfl) (fun Θ K hΘ hK => ?_) | refine rgb hG (by kernel_rfl) (fun Θ K hΘ hK => ?_)); simp (maxSteps := 2000000) only [go_sem, seval, reduceCtorEq, rd, ha2, hw0, hspec, e1]) | ((first | refine Post.splitN (fun gg => ?_) (fun gg => ?_) | refine Post.split (fun gg => ?_) (fun gg => ?_)) <;> simp (maxSteps := 2000000) only [go_sem, seval, reduceCtorEq, gg, rd, ha2, hw0, hspec, e1]) | (refine finR (by simp only [go_sem, seval, reduceCtorEq, rd, ha2, hw0, hspec, e1]; exact rfl) ?_; simp only [go_sem, seval, reduceCtorEq, rd, ha2, hw0, hspec, e1]) | refine updL hM ?_ (by omega) | (with_reducible exact fun _ _ => rfl))
        all_goals (first | omega | (simp only [decide_eq_true_eq, decide_eq_false_iff_not] at *; omega) | (simp only [List.length_append, List.length_cons, List.length_nil] <;> omega) | exact one_bv _ | exact one_sv _ | skip)
      · have e1 : ((l.length : Int) > 8) = False := eq_false (by omega)
        by_cases c2 : 0 < l.length
        · have e2 : ((l.length : Int) > 0) = True := eq_true (by omega)
          have g2 := eq_true c2
          by_cases c3 : l.getD 0 0 = 0
          · have e3 : (((l.getD 0 0).toNat : Int) = 0) = True := eq_true (by rw [c3]; rfl)
            repeat' (first | (with_reducible first | refine pa ?_ | refine pb ?_ | refine pc ?_ | refine nxt_n ?_ | refine nxt_e ?_ | refine nxt_r ?_ | refine blk_n ?_ | refine blk_r ?_ | refine blk_hit ?_ | refine blk_miss (by rfl) ?_ | refine pd ?_ | refine pe ?_ | refine pf ?_ | refine pg ?_ | apply And.intro) | (refine hK _ ?_; clear hK K hΘ Θ) | (with_reducible first | refine cw1 ?_ | refine cw2 ?_ | exact cw3 | exact cw4) | ((with_reducible first | refine cw5 (fun gg => ?_) | refine cw6 (fun gg => ?_) | refine cw7 (fun gg => ?_)); try simp only [gg]) | refine cs1 hG rfl ?_ ?_ | refine cs2 hG rfl ?_ ?_ | ((first | refine kg (take_at hA _ _ hb) rfl hΘ ?_ | refine kg (take_at hB _ _ (upd_same _ _ _)) rfl hΘ ?_ | refine kg (fail_sp b s2 f2 _ _ (upd_same _ _ _)) rfl hΘ ?_ | refine rga hG (by kernel_rfl) (fun Θ K hΘ hK => ?_) | refine rgb hG (by kernel_rfl) (fun Θ K hΘ hK => ?_)); simp (maxSteps := 2000000) only [go_sem, seval, reduceCtorEq, rd, ha2, hw0, hspec, e1, e2, e3, g2]) | ((first | refine Post.splitN (fun gg => ?_) (fun gg => ?_) | refine Post.split (fun gg => ?_) (fun gg => ?_)) <;> simp (maxSteps := 2000000) only [go_sem, seval, reduceCtorEq, gg, rd, ha2, hw0, hspec, e1, e2, e3, g2]) | (refine finR (by simp only [go_sem, seval, reduceCtorEq, rd, ha2, hw0, hspec, e1, e2, e3, g2]; exact rfl) ?_; simp only [go_sem, seval, reduceCtorEq, rd, ha2, hw0, hspec, e1, e2, e3, g2]) | refine updL hM ?_ (by omega) | (with_reducible exact fun _ _ => rfl))
            all_goals (first | omega | (simp only [decide_eq_true_eq, decide_eq_false_iff_not] at *; omega) | (simp only [List.length_append, List.length_cons, List.length_nil] <;> omega) | exact one_bv _ | exact one_sv _ | skip)
          · have e3 : (((l.getD 0 0).toNat : Int) = 0) = False := eq_false (by
              intro h; apply c3
              have : (l.getD 0 0).toNat = 0 := by omega
              exact UInt8.toNat_inj.1 (by simpa using this))
            have h4 : l.length = 8 ∧ 127 < (l.getD 0 0).toNat := by
              simp only [badNum, decide_eq_false c1, decide_eq_false c3, Bool.and_false, Bool.or_false, Bool.false_or, Bool.and_eq_true, decide_eq_true_eq] at hbad
              exact hbad
            have e4 : ((l.length : Int) = 8) = True := eq_true (by omega)
            have e5 : (((l.getD 0 0).toNat : Int) > 127) = True := eq_true (by omega)
            repeat' (first | (with_reducible first | refine pa ?_ | refine pb ?_ | refine pc ?_ | refine nxt_n ?_ | refine nxt_e ?_ | refine nxt_r ?_ | refine blk_n ?_ | refine blk_r ?_ | refine blk_hit ?_ | refine blk_miss (by rfl) ?_ | refine pd ?_ | refine pe ?_ | refine pf ?_ | refine pg ?_ | apply And.intro) | (refine hK _ ?_; clear hK K hΘ Θ) | (with_reducible first | refine cw1 ?_ | refine cw2 ?_ | exact cw3 | exact cw4) | ((with_reducible first | refine cw5 (fun gg => ?_) | refine cw6 (fun gg => ?_) | refine cw7 (fun gg => ?_)); try simp only [gg]) | refine cs1 hG rfl ?_ ?_ | refine cs2 hG rfl ?_ ?_ | ((first | refine kg (take_at hA _ _ hb) rfl hΘ ?_ | refine kg (take_at hB _ _ (upd_same _ _ _)) rfl hΘ ?_ | refine kg (fail_sp b s2 f2 _ _ (upd_same _ _ _)) rfl hΘ ?_ | refine rga hG (by kernel_rfl) (fun Θ K hΘ hK => ?_) | refine rgb hG (by kernel_rfl) (fun Θ K hΘ hK => ?_)); simp (maxSteps := 2000000) only [go_sem, seval, reduceCtorEq, rd, ha2, hw0, hspec, e1, e2, e3, e4, e5, g2]) | ((first | refine Post.splitN (fun gg => ?_) (fun gg => ?_) | refine Post.split (fun gg => ?_) (fun gg => ?_)) <;> simp (maxSteps := 2000000) only [go_sem, seval, reduceCtorEq, gg, rd, ha2, hw0, hspec, e1, e2, e3, e4, e5, g2]) | (refine finR (by simp only [go_sem, seval, reduceCtorEq, rd, ha2, hw0, hspec, e1, e2, e3, e4, e5, g2]; exact rfl) ?_; simp only [go_sem, seval, reduceCtorEq, rd, ha2, hw0, hspec, e1, e2, e3, e4, e5, g2]) | refine updL hM ?_ (by omega) | (with_reducible exact fun _ _ => rfl))
            all_goals (first | omega | (simp only [decide_eq_true_eq, decide_eq_false_iff_not] at *; omega) | (simp only [List.length_append, List.length_cons, List.length_nil] <;> omega) | exact one_bv _ | exact one_sv _ | skip)
        · exfalso
          have : badNum l = false := by simp only [badNum, decide_eq_false c2, decide_eq_false c1, decide_eq_false (show ¬ l.length = 8 by omega)]; simp
          rw [this] at hbad; cases hbad
    · have hgd : badNum l = false := by simpa using hbad
      rw [if_neg hbad] at hspec
      obtain ⟨hg1, hg2⟩ := be_good hgd
      simp only [badNum, Bool.or_eq_false_iff, Bool.and_eq_false_iff, decide_eq_false_iff_not] at hgd
      obtain ⟨⟨q1, q2⟩, q3⟩ := hgd
      have e1 : ((l.length : Int) > 8) = False := eq_false (by omega)
      have key : ((((l.length : Int) > 0) = False ∧ (((l.length : Int) = 8) = False) ∧ True ∧ True ∧ True)
          ∨ (((l.length : Int) > 0) = True ∧ ((((l.length : Int) = 8) = False) ∧ ((0 < l.length) = True) ∧ ((((l.getD 0 0).toNat : Int) = 0) = False) ∧ True))
          ∨ (((l.length : Int) > 0) = True ∧ ((((l.length : Int) = 8) = True) ∧ ((0 < l.length) = True) ∧ ((((l.getD 0 0).toNat : Int) = 0) = False) ∧ ((((l.getD 0 0).toNat : Int) > 127) = False)))) := by
        by_cases c2 : 0 < l.length
        · right
          have q2' := q2.resolve_left (fun h => h c2)
          have z1 : ((((l.getD 0 0).toNat : Int) = 0) = False) := eq_false (by
            intro h; apply q2'
            exact UInt8.toNat_inj.1 (by have h0 : (0 : UInt8).toNat = 0 := rfl; omega))
          have z2 : ((l.length : Int) > 0) = True := eq_true (by omega)
          by_cases c4 : l.length = 8
          · right
            exact ⟨z2, eq_true (by omega), eq_true c2, z1, eq_false (by have := q3.resolve_left (fun h => h c4); omega)⟩
          · left
            exact ⟨z2, eq_false (by omega), eq_true c2, z1, trivial⟩
        · left
          exact ⟨eq_false (by omega), eq_false (by omega), trivial, trivial, trivial⟩
      rcases key with ⟨k1, k2, k3, k4, k5⟩ | ⟨k1, k2, k3, k4, k5⟩ | ⟨k1, k2, k3, k4, k5⟩
      all_goals
        repeat' (first | (with_reducible first | refine pa ?_ | refine pb ?_ | refine pc ?_ | refine nxt_n ?_ | refine nxt_e ?_ | refine nxt_r ?_ | refine blk_n ?_ | refine blk_r ?_ | refine blk_hit ?_ | refine blk_miss (by rfl) ?_ | refine pd ?_ | refine pe ?_ | refine pf ?_ | refine pg ?_ | apply And.intro) | (refine hK _ ?_; clear hK K hΘ Θ) | (with_reducible first | refine cw1 ?_ | refine cw2 ?_ | exact cw3 | exact cw4) | ((with_reducible first | refine cw5 (fun gg => ?_) | refine cw6 (fun gg => ?_) | refine cw7 (fun gg => ?_)); try simp only [gg]) | refine cs1 hG rfl ?_ ?_ | refine cs2 hG rfl ?_ ?_ | ((first | refine kg (take_at hA _ _ hb) rfl hΘ ?_ | refine kg (take_at hB _ _ (upd_same _ _ _)) rfl hΘ ?_ | refine rga hG (by kernel_rfl) (fun Θ K hΘ hK => ?_) | refine rgb hG (by kernel_rfl) (fun Θ K hΘ hK => ?_)); simp (maxSteps := 2000000) only [go_sem, seval, reduceCtorEq, rd, ha2, hw0, e1, k1, k2, k3, k4, k5]) | ((first | refine Post.splitN (fun gg => ?_) (fun gg => ?_) | refine Post.split (fun gg => ?_) (fun gg => ?_)) <;> simp (maxSteps := 2000000) only [go_sem, seval, reduceCtorEq, gg, rd, ha2, hw0, e1, k1, k2, k3, k4, k5]) | (refine finR (by simp only [go_sem, seval, reduceCtorEq, rd, ha2, hw0, e1, k1, k2, k3, k4, k5]; exact rfl) ?_; simp only [go_sem, seval, reduceCtorEq, rd, ha2, hw0, e1, k1, k2, k3, k4, k5]) | refine updL hM ?_ (by omega) | (with_reducible exact fun _ _ => rfl))
        all_goals (first | omega | (simp only [decide_eq_true_eq, decide_eq_false_iff_not] at *; omega) | (simp only [List.length_append, List.length_cons, List.length_nil] <;> omega) | exact one_bv _ | exact one_sv _ | skip)
        refine WC.loopA (fun i : Nat => ⟨[(47, .flat (.int .i64 i)), (46, .flat (.int .i64 l.length)), (5, .flat (.int .i64 (be (l.take i)))), (4, .flat (.string (bs l)))], upd M b (rd s2 f2), mn⟩) (fun i => l.length - i) (fun i => i ≤ l.length) 0 (by omega) (sbs (by simp (maxSteps := 2000000) only [go_sem, seval, reduceCtorEq, List.append_eq, be, rd, List.take_zero, List.foldl_nil]) rfl rfl) ?_
        intro i hi
        by_cases h : i < l.length
        · have f1 : ((i : Int) < (l.length : Int)) = True := eq_true (by omega)
          have g1 : (i < l.length) = True := eq_true h
          have v1 := wi1 (n := i) (by omega)
          have hsn : be (l.take (i + 1)) = be (l.take i) * 256 + (l.getD i 0).toNat := by rw [take_snoc l i 0 h, be_snoc]
          have hle : be (l.take (i + 1)) ≤ be l := by
            have h1 : be l = be (l.take (i + 1)) * 256 ^ (l.drop (i + 1)).length + be (l.drop (i + 1)) := by
              rw [← be_acc]
              conv => lhs; rw [← List.take_append_drop (i + 1) l]
              simp only [be, List.foldl_append]
            have h2 : be (l.take (i + 1)) * 1 ≤ be (l.take (i + 1)) * 256 ^ (l.drop (i + 1)).length := Nat.mul_le_mul_left _ (Nat.pow_pos (by omega))
            omega
          have hb8 := (l.getD i 0).toNat_lt
          have hw1 : IntKind.i64.wrap ((l.getD i 0).toNat : Int) = ((l.getD i 0).toNat : Int) := wi (by omega) (by omega)
          have hsl : orI .i64 (shlI .i64 (be (l.take i) : Int) 8) ((l.getD i 0).toNat : Int) = ((be (l.take i) * 256 + (l.getD i 0).toNat : Nat) : Int) := shlor (be (l.take i)) (l.getD i 0).toNat (by omega) (by omega)
          repeat' (first | (with_reducible first | refine pa ?_ | refine pb ?_ | refine pc ?_ | refine nxt_n ?_ | refine nxt_e ?_ | refine nxt_r ?_ | refine blk_n ?_ | refine blk_r ?_ | refine blk_hit ?_ | refine blk_miss (by rfl) ?_ | refine pd ?_ | refine pe ?_ | refine pf ?_ | refine pg ?_ | apply And.intro) | (refine hK _ ?_; clear hK K hΘ Θ) | (with_reducible first | refine cw1 ?_ | refine cw2 ?_ | exact cw3 | exact cw4) | ((with_reducible first | refine cw5 (fun gg => ?_) | refine cw6 (fun gg => ?_) | refine cw7 (fun gg => ?_)); try simp only [gg]) | refine cs1 hG rfl ?_ ?_ | refine cs2 hG rfl ?_ ?_ | ((first | refine rga hG (by kernel_rfl) (fun Θ K hΘ hK => ?_) | refine rgb hG (by kernel_rfl) (fun Θ K hΘ hK => ?_)); simp (maxSteps := 2000000) only [go_sem, seval, reduceCtorEq, f1, g1, v1, hw1, hsl, ← hsn]) | ((first | refine Post.splitN (fun gg => ?_) (fun gg => ?_) | refine Post.split (fun gg => ?_) (fun gg => ?_)) <;> simp (maxSteps := 2000000) only [go_sem, seval, reduceCtorEq, gg, f1, g1, v1, hw1, hsl, ← hsn]) | (refine finR (by simp only [go_sem, seval, reduceCtorEq, f1, g1, v1, hw1, hsl, ← hsn]; exact rfl) ?_; simp only [go_sem, seval, reduceCtorEq, f1, g1, v1, hw1, hsl, ← hsn]) | refine updL hM ?_ (by omega) | (with_reducible exact fun _ _ => rfl))
          all_goals (first | omega | (simp only [decide_eq_true_eq, decide_eq_false_iff_not] at *; omega) | (simp only [List.length_append, List.length_cons, List.length_nil] <;> omega) | exact one_bv _ | exact one_sv _ | skip)
          exact ⟨i + 1, by omega, by omega, (sbs (by simp (maxSteps := 2000000) only [go_sem, seval, reduceCtorEq, List.append_eq]) rfl rfl)⟩
        · have f1 : ((i : Int) < (l.length : Int)) = False := eq_false (by omega)
          have hii : i = l.length := by omega
          subst hii
          repeat' (first | (with_reducible first | refine pa ?_ | refine pb ?_ | refine pc ?_ | refine nxt_n ?_ | refine nxt_e ?_ | refine nxt_r ?_ | refine blk_n ?_ | refine blk_r ?_ | refine blk_hit ?_ | refine blk_miss (by rfl) ?_ | refine pd ?_ | refine pe ?_ | refine pf ?_ | refine pg ?_ | apply And.intro) | (refine hK _ ?_; clear hK K hΘ Θ) | (with_reducible first | refine cw1 ?_ | refine cw2 ?_ | exact cw3 | exact cw4) | ((with_reducible first | refine cw5 (fun gg => ?_) | refine cw6 (fun gg => ?_) | refine cw7 (fun gg => ?_)); try simp only [gg]) | refine cs1 hG rfl ?_ ?_ | refine cs2 hG rfl ?_ ?_ | ((first | refine rga hG (by kernel_rfl) (fun Θ K hΘ hK => ?_) | refine rgb hG (by kernel_rfl) (fun Θ K hΘ hK => ?_)); simp (maxSteps := 2000000) only [go_sem, seval, reduceCtorEq, f1, hspec, List.take_length]) | ((first | refine Post.splitN (fun gg => ?_) (fun gg => ?_) | refine Post.split (fun gg => ?_) (fun gg => ?_)) <;> simp (maxSteps := 2000000) only [go_sem, seval, reduceCtorEq, gg, f1, hspec, List.take_length]) | (refine finR (by simp only [go_sem, seval, reduceCtorEq, f1, hspec, List.take_length]; exact rfl) ?_; simp only [go_sem, seval, reduceCtorEq, f1, hspec, List.take_length]) | refine updL hM ?_ (by omega) | (with_reducible exact fun _ _ => rfl))
          all_goals (first | omega | (simp only [decide_eq_true_eq, decide_eq_false_iff_not] at *; omega) | (simp only [List.length_append, List.length_cons, List.length_nil] <;> omega) | exact one_bv _ | exact one_sv _ | skip)
  · have hspec : rNum s f = (0, (s1, true)) := by simp only [rNum, hA]; simp
    repeat' (first | (with_reducible first | refine pa ?_ | refine pb ?_ | refine pc ?_ | refine nxt_n ?_ | refine nxt_e ?_ | refine nxt_r ?_ | refine blk_n ?_ | refine blk_r ?_ | refine blk_hit ?_ | refine blk_miss (by rfl) ?_ | refine pd ?_ | refine pe ?_ | refine pf ?_ | refine pg ?_ | apply And.intro) | (refine hK _ ?_; clear hK K hΘ Θ) | (with_reducible first | refine cw1 ?_ | refine cw2 ?_ | exact cw3 | exact cw4) | ((with_reducible first | refine cw5 (fun gg => ?_) | refine cw6 (fun gg => ?_) | refine cw7 (fun gg => ?_)); try simp only [gg]) | refine cs1 hG rfl ?_ ?_ | refine cs2 hG rfl ?_ ?_ | ((first | refine kg (take_at hA _ _ hb) rfl hΘ ?_ | refine rga hG (by kernel_rfl) (fun Θ K hΘ hK => ?_) | refine rgb hG (by kernel_rfl) (fun Θ K hΘ hK => ?_)); simp (maxSteps := 2000000) only [go_sem, seval, reduceCtorEq, rd, hspec]) | ((first | refine Post.splitN (fun gg => ?_) (fun gg => ?_) | refine Post.split (fun gg => ?_) (fun gg => ?_)) <;> simp (maxSteps := 2000000) only [go_sem, seval, reduceCtorEq, gg, rd, hspec]) | (refine finR (by simp only [go_sem, seval, reduceCtorEq, rd, hspec]; exact rfl) ?_; simp only [go_sem, seval, reduceCtorEq, rd, hspec]) | refine updL hM ?_ (by omega) | (with_reducible exact fun _ _ => rfl))
    all_goals (first | omega | (simp only [decide_eq_true_eq, decide_eq_false_iff_not] at *; omega) | (simp only [List.length_append, List.length_cons, List.length_nil] <;> omega) | exact one_bv _ | exact one_sv _ | skip)
theorem RdText_sp (b : Nat) (s : List UInt8) (f : Bool) (M : Mem) (mn : Nat) (hb : M b = rd s f) : Sp Try.prog GL 69 [.bp b 0] M mn (fun r m k => r = .flat (.string (bs (rText s f).1)) ∧ m = upd M b (rd (rText s f).2.1 (rText s f).2.2) ∧ k = mn) := by
  have hr : rTake (rNum s f).1 (rNum s f).2.1 (rNum s f).2.2 = rText s f := rfl
  refine fnP (C := kc 9 [] []) (rs := [.tmp 2]) envOk Try.func69 (by kernel_rfl) rfl rfl rfl rfl rfl rfl ?_
  intro E hG hM
  repeat' (first | (with_reducible first | refine pa ?_ | refine pb ?_ | refine pc ?_ | refine nxt_n ?_ | refine nxt_e ?_ | refine nxt_r ?_ | refine blk_n ?_ | refine blk_r ?_ | refine blk_hit ?_ | refine blk_miss (by rfl) ?_ | refine pd ?_ | refine pe ?_ | refine pf ?_ | refine pg ?_ | apply And.intro) | (refine hK _ ?_; clear hK K hΘ Θ) | (with_reducible first | refine cw1 ?_ | refine cw2 ?_ | exact cw3 | exact cw4) | ((with_reducible first | refine cw5 (fun gg => ?_) | refine cw6 (fun gg => ?_) | refine cw7 (fun gg => ?_)); try simp only [gg]) | refine cs1 hG rfl ?_ ?_ | refine cs2 hG rfl ?_ ?_ | ((first | refine kg (RdNum_sp b s f _ _ hb) rfl hΘ ?_ | refine kg (take_sp b _ _ _ _ _ (upd_same _ _ _)) rfl hΘ ?_ | refine rga hG (by kernel_rfl) (fun Θ K hΘ hK => ?_) | refine rgb hG (by kernel_rfl) (fun Θ K hΘ hK => ?_)); simp (maxSteps := 2000000) only [go_sem, seval, reduceCtorEq, hr]) | ((first | refine Post.splitN (fun gg => ?_) (fun gg => ?_) | refine Post.split (fun gg => ?_) (fun gg => ?_)) <;> simp (maxSteps := 2000000) only [go_sem, seval, reduceCtorEq, gg, hr]) | (refine finR (by simp only [go_sem, seval, reduceCtorEq, hr]; exact rfl) ?_; simp only [go_sem, seval, reduceCtorEq, hr]) | refine updL hM ?_ (by omega) | (with_reducible exact fun _ _ => rfl))
  all_goals (first | omega | (simp only [decide_eq_true_eq, decide_eq_false_iff_not] at *; omega) | (simp only [List.length_append, List.length_cons, List.length_nil] <;> omega) | exact one_bv _ | exact one_sv _ | skip)
theorem End_sp (b : Nat) (s : List UInt8) (f : Bool) (M : Mem) (mn : Nat) (hb : M b = rd s f) : Sp Try.prog GL 59 [.bp b 0] M mn (fun r m k => r = .flat (.int .i64 (rEnd s f)) ∧ m = M ∧ k = mn) := by
  have hb' : M b = some [.flat (.string (bs s)), .flat (.bool f)] := hb
  refine fnP (C := kc 18 [] []) (rs := [.tmp 2]) envOk Try.func59 (by kernel_rfl) rfl rfl rfl rfl rfl rfl ?_
  intro E hG hM
  cases f
  · by_cases hs : s = []
    · subst hs
      have e : rEnd [] false = 0 := rfl
      repeat' (first | (with_reducible first | refine pa ?_ | refine pb ?_ | refine pc ?_ | refine nxt_n ?_ | refine nxt_e ?_ | refine nxt_r ?_ | refine blk_n ?_ | refine blk_r ?_ | refine blk_hit ?_ | refine blk_miss (by rfl) ?_ | refine pd ?_ | refine pe ?_ | refine pf ?_ | refine pg ?_ | apply And.intro) | (refine hK _ ?_; clear hK K hΘ Θ) | (with_reducible first | refine cw1 ?_ | refine cw2 ?_ | exact cw3 | exact cw4) | ((with_reducible first | refine cw5 (fun gg => ?_) | refine cw6 (fun gg => ?_) | refine cw7 (fun gg => ?_)); try simp only [gg]) | refine cs1 hG rfl ?_ ?_ | refine cs2 hG rfl ?_ ?_ | ((first | refine rga hG (by kernel_rfl) (fun Θ K hΘ hK => ?_) | refine rgb hG (by kernel_rfl) (fun Θ K hΘ hK => ?_)); simp (maxSteps := 2000000) only [go_sem, seval, reduceCtorEq, hb', e]) | ((first | refine Post.splitN (fun gg => ?_) (fun gg => ?_) | refine Post.split (fun gg => ?_) (fun gg => ?_)) <;> simp (maxSteps := 2000000) only [go_sem, seval, reduceCtorEq, gg, hb', e]) | (refine finR (by simp only [go_sem, seval, reduceCtorEq, hb', e]; exact rfl) ?_; simp only [go_sem, seval, reduceCtorEq, hb', e]) | refine updL hM ?_ (by omega) | (with_reducible exact fun _ _ => rfl))
      all_goals (first | omega | (simp only [decide_eq_true_eq, decide_eq_false_iff_not] at *; omega) | (simp only [List.length_append, List.length_cons, List.length_nil] <;> omega) | exact one_bv _ | exact one_sv _ | skip)
    · have e : rEnd s false = 4 := by simp [rEnd, hs]
      have hs' : (s = []) = False := eq_false hs
      repeat' (first | (with_reducible first | refine pa ?_ | refine pb ?_ | refine pc ?_ | refine nxt_n ?_ | refine nxt_e ?_ | refine nxt_r ?_ | refine blk_n ?_ | refine blk_r ?_ | refine blk_hit ?_ | refine blk_miss (by rfl) ?_ | refine pd ?_ | refine pe ?_ | refine pf ?_ | refine pg ?_ | apply And.intro) | (refine hK _ ?_; clear hK K hΘ Θ) | (with_reducible first | refine cw1 ?_ | refine cw2 ?_ | exact cw3 | exact cw4) | ((with_reducible first | refine cw5 (fun gg => ?_) | refine cw6 (fun gg => ?_) | refine cw7 (fun gg => ?_)); try simp only [gg]) | refine cs1 hG rfl ?_ ?_ | refine cs2 hG rfl ?_ ?_ | ((first | refine rga hG (by kernel_rfl) (fun Θ K hΘ hK => ?_) | refine rgb hG (by kernel_rfl) (fun Θ K hΘ hK => ?_)); simp (maxSteps := 2000000) only [go_sem, seval, reduceCtorEq, hb', hs', e]) | ((first | refine Post.splitN (fun gg => ?_) (fun gg => ?_) | refine Post.split (fun gg => ?_) (fun gg => ?_)) <;> simp (maxSteps := 2000000) only [go_sem, seval, reduceCtorEq, gg, hb', hs', e]) | (refine finR (by simp only [go_sem, seval, reduceCtorEq, hb', hs', e]; exact rfl) ?_; simp only [go_sem, seval, reduceCtorEq, hb', hs', e]) | refine updL hM ?_ (by omega) | (with_reducible exact fun _ _ => rfl))
      all_goals (first | omega | (simp only [decide_eq_true_eq, decide_eq_false_iff_not] at *; omega) | (simp only [List.length_append, List.length_cons, List.length_nil] <;> omega) | exact one_bv _ | exact one_sv _ | skip)
  · have e : rEnd s true = 4 := by simp [rEnd]
    repeat' (first | (with_reducible first | refine pa ?_ | refine pb ?_ | refine pc ?_ | refine nxt_n ?_ | refine nxt_e ?_ | refine nxt_r ?_ | refine blk_n ?_ | refine blk_r ?_ | refine blk_hit ?_ | refine blk_miss (by rfl) ?_ | refine pd ?_ | refine pe ?_ | refine pf ?_ | refine pg ?_ | apply And.intro) | (refine hK _ ?_; clear hK K hΘ Θ) | (with_reducible first | refine cw1 ?_ | refine cw2 ?_ | exact cw3 | exact cw4) | ((with_reducible first | refine cw5 (fun gg => ?_) | refine cw6 (fun gg => ?_) | refine cw7 (fun gg => ?_)); try simp only [gg]) | refine cs1 hG rfl ?_ ?_ | refine cs2 hG rfl ?_ ?_ | ((first | refine rga hG (by kernel_rfl) (fun Θ K hΘ hK => ?_) | refine rgb hG (by kernel_rfl) (fun Θ K hΘ hK => ?_)); simp (maxSteps := 2000000) only [go_sem, seval, reduceCtorEq, hb', e]) | ((first | refine Post.splitN (fun gg => ?_) (fun gg => ?_) | refine Post.split (fun gg => ?_) (fun gg => ?_)) <;> simp (maxSteps := 2000000) only [go_sem, seval, reduceCtorEq, gg, hb', e]) | (refine finR (by simp only [go_sem, seval, reduceCtorEq, hb', e]; exact rfl) ?_; simp only [go_sem, seval, reduceCtorEq, hb', e]) | refine updL hM ?_ (by omega) | (with_reducible exact fun _ _ => rfl))
    all_goals (first | omega | (simp only [decide_eq_true_eq, decide_eq_false_iff_not] at *; omega) | (simp only [List.length_append, List.length_cons, List.length_nil] <;> omega) | exact one_bv _ | exact one_sv _ | skip)
end Go.VL
